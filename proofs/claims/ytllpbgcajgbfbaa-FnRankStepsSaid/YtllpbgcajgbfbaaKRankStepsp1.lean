/- Each of these functions of the program comes to just what its plain function says: FnRankSteps. -/
import Derived.Test.YtllpbgcajgbfbaaKRankStepsp0
namespace Go.Proofs.Ytllpbgcajgbfbaa
open Go Go.RowKit E
set_option linter.unusedVariables false
theorem told_one {w : AV} (h : w.one = true) : w.told = true := by cases w <;> first | rfl | (simp [AV.one] at h)
theorem ix_take {α : Type} [Inhabited α] {es : List α} {i : Int} {x : α} (h : ix es i = some x) : es.take (i.toNat + 1) = es.take i.toNat ++ [x] := by
  obtain ⟨h0, h1, h2⟩ := ixE h
  have hi : i.toNat < es.length := by omega
  rw [List.take_succ_eq_append_getElem hi]
  congr 2
  rw [← h2, List.getD_eq_getElem?_getD, List.getElem?_eq_getElem hi]; rfl
/-- A row of its own within a row of rows. -/
structure RIn where
  w : AV
  q : List Int
  h : w.one = true ∧ cells w = [w]
noncomputable def RIn.none : RIn := ⟨.nil, [], ⟨rfl, rfl⟩⟩
noncomputable instance : Inhabited RIn := ⟨RIn.none⟩
noncomputable def RIn.raw (e : RIn) : AV := e.w
noncomputable def RIn.t (e : RIn) : List Int := e.q
noncomputable def RIn.rows (e : RIn) : List (AV × List AV) := [(e.w, e.q.map (AV.int .i64))]
theorem RIn.cell (e : RIn) : cells e.raw = [e.raw] := e.h.2
theorem RIn.ones (e : RIn) : (cells e.raw).all AV.one = true := by rw [e.cell]; exact allC e.h.1 rfl
theorem RIn.m {es : List RIn} {x : RIn} (h : x ∈ es) : (x.w, x.q.map (AV.int .i64)) ∈ es.flatMap RIn.rows := List.mem_flatMap.mpr ⟨x, h, by simp [RIn.rows]⟩
/-- A state of ranks, its ranks of its own. -/
structure RRs where
  w : AV
  q : List Int
  o : Int
  h : w.one = true
noncomputable instance : Inhabited RRs := ⟨⟨.nil, [], 0, rfl⟩⟩
noncomputable def RRs.raw (e : RRs) : AV := .agg [e.w, .int .i64 e.o]
noncomputable def RRs.t (e : RRs) : TRankState := ⟨e.q, e.o⟩
noncomputable def RRs.rows (e : RRs) : List (AV × List AV) := [(e.w, e.q.map (AV.int .i64))]
noncomputable def RRs.of (x : RIn) (o : Int) : RRs := ⟨x.w, x.q, o, x.h.1⟩
theorem RRs.ones (e : RRs) : (cells e.raw).all AV.one = true := allC e.h (allC rfl rfl)
theorem RRs.m {es : List RRs} {x : RRs} (h : x ∈ es) : (x.w, x.q.map (AV.int .i64)) ∈ es.flatMap RRs.rows := List.mem_flatMap.mpr ⟨x, h, by simp [RRs.rows]⟩
theorem RRs.ras {L : List Res} {k kp : Nat} {w : AV} {es : List RRs} (hk : L[k]? = some (.row 2 w (es.map RRs.raw))) (hp : L[kp]? = some (.pool (es.flatMap RRs.rows))) : RAS L w (.list 2 ((es.map RRs.t).map TRankState.av)) := by
  refine RAS.rowL hk (by simp) (fun y hy => by simp only [List.mem_map] at hy; obtain ⟨_, ⟨x, _, rfl⟩, rfl⟩ := hy; rfl) ?_
  have key : ∀ l : List RRs, (∀ x ∈ l, x ∈ es) → RASs L (flat (l.map RRs.raw)) (flat ((l.map RRs.t).map TRankState.av)) := by
    intro l
    induction l with
    | nil => intro _; exact trivial
    | cons x l ih =>
      intro h
      exact ⟨.pool hp (RRs.m (h x List.mem_cons_self)), .same _, ih fun y hy => h y (List.mem_cons_of_mem _ hy)⟩
  exact key es fun x h => h
theorem ranks_scal {r : List TRankState} : ∀ v L' G, (∃ rs : List RRs, rs.map RRs.t = r ∧ L' = [.row 2 v (rs.map RRs.raw), .pool (rs.flatMap RRs.rows)]) → Sep G L' → Scal v ∧ AllScal L' := by
  rintro v _ G ⟨rs, _, rfl⟩ hG
  refine ⟨hG.scR (k := 0) rfl, fun c hc => ?_, fun p hp c hc => ?_, trivial⟩
  · simp only [flat, List.mem_flatMap, List.mem_map] at hc
    obtain ⟨_, ⟨x, hx, rfl⟩, hc⟩ := hc
    simp only [RRs.raw, cells, List.mem_cons, List.not_mem_nil, or_false] at hc
    rcases hc with rfl | rfl
    · exact (hG.poolOwn (k := 1) rfl (RRs.m hx)).scal
    · constructor
  · obtain ⟨x, hx, hp⟩ := List.mem_flatMap.mp hp
    simp only [RRs.rows, List.mem_cons, List.not_mem_nil, or_false] at hp
    rcases hp with rfl
    exact Scal.ints _ _ c hc
theorem mid_perm (pre r : List RRs) (x : RRs) : ((pre ++ x :: r).flatMap RRs.rows).Perm (x.rows ++ (pre ++ r).flatMap RRs.rows) := (List.perm_middle (l₁ := pre) (a := x) (l₂ := r)).flatMap_right RRs.rows
set_option maxRecDepth 10000 in
theorem spec_l13Next_own {p0 : TAuto} {p1 : TRankState} {p2 : Int} {r : (List TRankState)} (hF : spec_l13Next p0 p1 p2 = some r) : HS Try.prog 46 [(TAuto.av p0), (TRankState.av p1), (.int .i64 p2)] [] fun v L' => ∃ rs : List RRs, rs.map RRs.t = r ∧ L' = [.row 2 v (rs.map RRs.raw), .pool (rs.flatMap RRs.rows)] := by
  intro H S hS
  refine HC.enter Try.func46 rfl Try.ntmps46 (by simp) ?_
  simp only [List.nil_append] at hS
  unfold spec_l13Next at hF
  refine AWP.seqR rfl ?_
  refine ASL.q (v := (.rptr [(.int .i64 p0.letters), (.int .i64 p0.states), (.int .i64 p0.start), (.list 4 (List.map TEdge.av p0.edges))])) rfl rfl ((qBoxI (v := (TAuto.av p0)) rfl rfl rfl rfl)) ?_
  refine ASL.q (v := (.rptr [(.list 1 (List.map (AV.int .i64) p1.ranks)), (.int .i64 p1.owing)])) rfl rfl ((qBoxI (v := (TRankState.av p1)) rfl rfl rfl rfl)) ?_
  refine ASL.q (v := .nil) rfl rfl (Light.quiet (opAssign rfl rfl)) ?_
  refine ASL.done ?_
  refine AWP.seqR rfl ?_
  refine ASL.q (v := (TAuto.av p0)) rfl rfl (Light.quiet (opLoadRA rfl aggA_33 sizeA_33 rfl (nlt rfl) rfl)) ?_
  refine ASL.q (v := (TRankState.av p1)) rfl rfl (Light.quiet (opLoadRA rfl aggA_28 sizeA_28 rfl (nlt rfl) rfl)) ?_
  refine ASL.q (v := (.int .i64 p2)) rfl rfl (Light.quiet (opMove rfl rfl)) ?_
  obtain ⟨a21, ha21, hF⟩ := bindE hF
  refine ASL.q (v := (.list 1 (List.map (AV.int .i64) a21))) rfl rfl ((qCall rfl rfl call_66 (PO.list (spec_l13Bounds_ok ha21)) rfl)) ?_
  refine ASL.q (v := (.list 1 (List.map (AV.int .i64) a21))) rfl rfl (Light.quiet (opAssign rfl rfl)) ?_
  refine ASL.done ?_
  refine AWP.seqR rfl ?_
  refine ASL.x rfl rfl (hLit (f := (AV.int .i64)) (zs := []) hS rfl rfl elemA_26 sizeA_3 zeroA_3 rfl rfl rfl rfl (by simp [cells]) (nlt rfl) ?_); rintro v71 G1 hK hS
  have h71 := hS.one (k := 0) rfl
  have c71 : cells v71 = [v71] := (hS.get (k := 0) rfl : Own _ _ _ _).cells
  refine ASL.x rfl rfl (hLit (f := RIn.raw) (zs := [RIn.mk v71 [] ⟨h71, c71⟩]) hS rfl rfl elemA_85 sizeA_26 zeroA_26 rfl rfl rfl (by simp [RIn.raw, told_one h71]) (by simp [RIn.raw, c71]) (nlt rfl) ?_); rintro v72 G2 hK hS
  refine ASL.q (v := v72) rfl rfl (Light.quiet (opAssign rfl rfl)) ?_
  refine ASL.done ?_
  have hS := (hS.newPool.poolIn (k := 1) rfl).pick (L' := [.row 1 v72 ([RIn.mk v71 [] ⟨h71, c71⟩].map RIn.raw), .pool ([RIn.mk v71 [] ⟨h71, c71⟩].flatMap RIn.rows), .snap S]) [1, 0, 2] rfl rfl
  refine AWP.seqM (fun e H => ∃ x8_1 : (List (List Int)), ∃ w7 : AV, ∃ es : List RIn, es.map RIn.t = x8_1 ∧ E.Told e [(2, (.int .i64 p2)), (3, (.rptr [(.int .i64 p0.letters), (.int .i64 p0.states), (.int .i64 p0.start), (.list 4 (List.map TEdge.av p0.edges))])), (4, (.rptr [(.list 1 (List.map (AV.int .i64) p1.ranks)), (.int .i64 p1.owing)])), (8, w7)] ∧ E.Sep H [.row 1 w7 (es.map RIn.raw), .pool (es.flatMap RIn.rows), .snap S] ∧ spec_l13Next.k0 p0 p1 p2 x8_1 = some r) ?_ ?_
  · rintro e0 G36 ⟨x8_1, w7, es, hes, hT, hS, hF⟩; refine AWP.only _ hT ?_; unfold spec_l13Next.k0 at hF
    have hlen : es.length = x8_1.length := by rw [← hes, List.length_map]
    refine AWP.seqR rfl ?_
    refine ASL.q (v := (.rptr [(.int .i64 p0.states), (.int .i64 p0.start), (.list 4 (List.map TEdge.av p0.edges))])) rfl rfl (Light.quiet (opFieldAddrR rfl fieldA_33_1 rfl rfl)) ?_
    refine ASL.q (v := (.int .i64 p0.states)) rfl rfl (Light.quiet (opLoadR rfl aggA_3 rfl rfl)) ?_
    obtain ⟨u2, hu2, hF⟩ := bindE hF
    refine ASL.q (v := (.int .i64 (shl .i64 1 p0.states))) rfl rfl (Light.quiet (opShl rfl rfl rfl (of_decide_eq_true (chkE hu2)) rfl)) ?_
    refine ASL.q (v := (.int .i64 (W (((shl .i64 1 p0.states)) - 1)))) rfl rfl (Light.quiet (opInt rfl rfl rfl rfl)) ?_
    refine ASL.q (v := (.int .i64 (W (((shl .i64 1 p0.states)) - 1)))) rfl rfl (Light.quiet (opAssign rfl rfl)) ?_
    refine ASL.done ?_
    refine AWP.seqM (fun e H => ∃ x13_2 : Int, E.Told e [(3, (.rptr [(.int .i64 p0.letters), (.int .i64 p0.states), (.int .i64 p0.start), (.list 4 (List.map TEdge.av p0.edges))])), (8, w7), (13, (.int .i64 x13_2))] ∧ E.Sep H [.row 1 w7 (es.map RIn.raw), .pool (es.flatMap RIn.rows), .snap S] ∧ spec_l13Next.k1 x8_1 p0 x13_2 = some r) ?_ ?_
    · rintro e0 G34 ⟨x13_2, hT, hS, hF⟩; refine AWP.only _ hT ?_; unfold spec_l13Next.k1 at hF
      refine AWP.seqR rfl ?_
      refine ASL.x rfl rfl (hLit (f := RRs.raw) (zs := []) hS rfl rfl elemA_44 sizeA_28 zeroA_28 rfl rfl rfl rfl (by simp) (nlt rfl) ?_); rintro v75 G3 hK hS
      refine ASL.q (v := v75) rfl rfl (Light.quiet (opAssign rfl rfl)) ?_
      refine ASL.done ?_
      refine AWP.seqM (fun e H => ∃ y5 : (List TRankState), ∃ w6 : AV, ∃ rs : List RRs, rs.map RRs.t = y5 ∧ rs.flatMap RRs.rows = es.flatMap RIn.rows ∧ E.Told e [(14, w6)] ∧ E.Sep H [.row 2 w6 (rs.map RRs.raw), .row 1 w7 (es.map RIn.raw), .pool (es.flatMap RIn.rows), .snap S] ∧ spec_l13Next.k2 y5 = some r) ?_ ?_
      · rintro e0 G8 ⟨y5, w6, rs, hrs, hrr, hT, hS, hF⟩; refine AWP.only _ hT ?_; unfold spec_l13Next.k2 at hF
        refine AWP.seqR rfl ?_
        refine ASL.q (v := w6) rfl rfl (Light.quiet (opMove rfl rfl)) ?_
        refine ASL.q (v := w6) rfl rfl (Light.quiet (opAssign rfl rfl)) ?_
        refine ASL.done ?_
        refine AWP.ret ?_
        obtain rfl := someE hF
        exact QRet.sole (v := w6) ⟨rfl, trivial⟩ ⟨_, ⟨rs, hrs, rfl⟩, by rw [hrr]; exact hS.pick [0, 2, 3] rfl rfl⟩
      · skip
        refine AWP.seqR rfl ?_
        refine ASL.q (v := (.int .i64 0)) rfl rfl (Light.quiet (opAssign rfl rfl)) ?_
        refine ASL.done ?_
        refine AWP.block ?_
        obtain ⟨o15, hL14, hR16⟩ := bindE hF
        refine AWP.loopI (ω := AV × List RRs) hL14 (fun s w => s.2 = (w.2.length : Int) ∧ w.2.length ≤ es.length ∧ w.2.map RRs.t = s.1 ∧ w.2.flatMap RRs.rows = (es.take w.2.length).flatMap RIn.rows) (fun s w => [(3, (.rptr [(.int .i64 p0.letters), (.int .i64 p0.states), (.int .i64 p0.start), (.list 4 (List.map TEdge.av p0.edges))])), (8, w7), (13, (.int .i64 x13_2)), (14, w.1), (15, (.int .i64 s.2))]) (fun s w => [.row 2 w.1 (w.2.map RRs.raw), .row 1 w7 (es.map RIn.raw), .pool (es.flatMap RIn.rows), .snap S]) (v75, []) ⟨rfl, Nat.zero_le _, rfl, rfl⟩ ⟨rfl, rfl, rfl, rfl, rfl, trivial⟩ hS ?_
        rintro ⟨y9, x15_l0⟩ ⟨w10, rs⟩ G17 ⟨hi0, hi1, hrs, hrr⟩ hS x12 hF hx13
        dsimp only at hi0 hi1 hrs hrr hS ⊢
        have hF : spec_l13Next.b0 x8_1 p0 x13_2 y9 x15_l0 = some x12 := hF; unfold spec_l13Next.b0 at hF
        refine AWP.seq ?_
        refine AWP.seqR rfl ?_
        refine ASL.q (v := (.int .i64 x15_l0)) rfl rfl (Light.quiet (opMove rfl rfl)) ?_
        refine ASL.q (v := w7) rfl rfl (Light.quiet (opMove rfl rfl)) ?_
        refine ASL.q (v := (.int .i64 (x8_1.length : Int))) rfl rfl (Quiet.cast (Light.quiet (kLen hS (j := 1) rfl rfl rfl rfl lenT_85 rfl)) (by rw [hlen])) ?_
        refine ASL.q (v := (.bool (decide (x15_l0 < ((x8_1.length : Int)))))) rfl rfl (Light.quiet (opInt rfl rfl rfl rfl)) ?_
        refine ASL.done ?_
        refine AWP.ifP hF rfl (fun hc18 hF => ?_) (fun hc18 hF => ?_)
        · skip
          refine AWP.skip ?_
          refine QThen.nrm ?_
          refine AWP.seqM (fun e H => ∃ y19 : (List TRankState), ∃ w20 : AV, ∃ rs2 : List RRs, rs2.length = rs.length + 1 ∧ rs2.length ≤ 4611686018427387904 ∧ rs2.length ≤ es.length ∧ rs2.map RRs.t = y19 ∧ rs2.flatMap RRs.rows = (es.take rs2.length).flatMap RIn.rows ∧ E.Told e [(3, (.rptr [(.int .i64 p0.letters), (.int .i64 p0.states), (.int .i64 p0.start), (.list 4 (List.map TEdge.av p0.edges))])), (8, w7), (13, (.int .i64 x13_2)), (14, w20), (15, (.int .i64 x15_l0))] ∧ E.Sep H [.row 2 w20 (rs2.map RRs.raw), .row 1 w7 (es.map RIn.raw), .pool (es.flatMap RIn.rows), .snap S] ∧ spec_l13Next.k3 x15_l0 y19 = some x12) ?_ ?_
          · rintro e0 G22 ⟨y19, w20, rs2, g1, g2, g3, g4, g5, hT, hS, hF⟩; refine AWP.only _ hT ?_; unfold spec_l13Next.k3 at hF
            refine AWP.lastR rfl ?_
            refine ASL.q (v := (.int .i64 x15_l0)) rfl rfl (Light.quiet (opMove rfl rfl)) ?_
            refine ASL.q (v := (.int .i64 (W (x15_l0 + 1)))) rfl rfl (Light.quiet (opInt rfl rfl rfl rfl)) ?_
            refine ASL.q (v := (.int .i64 (W (x15_l0 + 1)))) rfl rfl (Light.quiet (opAssign rfl rfl)) ?_
            refine ASL.done ?_
            refine QThen.nrm ?_
            exact ⟨(y19, (W (x15_l0 + 1))), (w20, rs2), (someE hF).symm, ⟨by show IntKind.i64.wrap (x15_l0 + 1) = _; rw [W_eq (by omega) (by omega)]; dsimp only; omega, g3, g4, g5⟩, ⟨rfl, rfl, rfl, rfl, rfl, trivial⟩, hS⟩
          · skip
            refine AWP.block ?_
            refine AWP.seqR rfl ?_
            refine ASL.q (v := (.int .i64 0)) rfl rfl (Light.quiet (opAssign rfl rfl)) ?_
            refine ASL.done ?_
            refine AWP.seqM (fun e H => ∃ x16_5 : Int, E.Told e [(3, (.rptr [(.int .i64 p0.letters), (.int .i64 p0.states), (.int .i64 p0.start), (.list 4 (List.map TEdge.av p0.edges))])), (8, w7), (13, (.int .i64 x13_2)), (14, w10), (15, (.int .i64 x15_l0)), (16, (.int .i64 x16_5))] ∧ E.Sep H [.row 2 w10 (rs.map RRs.raw), .row 1 w7 (es.map RIn.raw), .pool (es.flatMap RIn.rows), .snap S] ∧ spec_l13Next.k4 x8_1 x15_l0 y9 x16_5 = some x12) ?_ ?_
            · rintro e0 G25 ⟨x16_5, hT, hS, hF⟩; refine AWP.only _ hT ?_; unfold spec_l13Next.k4 at hF
              refine AWP.lastR rfl ?_
              refine ASL.q (v := w10) rfl rfl (Light.quiet (opMove rfl rfl)) ?_
              refine ASL.q (v := w7) rfl rfl (Light.quiet (opMove rfl rfl)) ?_
              refine ASL.q (v := (.int .i64 x15_l0)) rfl rfl (Light.quiet (opMove rfl rfl)) ?_
              obtain ⟨a119, ha119, hF⟩ := bindE hF
              rw [← hes] at ha119
              obtain ⟨x119, hx119, hxa, hxm⟩ := ix_map ha119
              have hxa : x119.q = a119 := hxa
              subst hxa
              have hmx119 := RIn.m hxm
              refine ASL.q (v := (ptrTo w7 x15_l0.toNat 1)) rfl rfl (Light.quiet (kIxOx (f := RIn.raw) hS (j := 1) rfl hx119 rfl rfl rfl elemA_85 sizeA_26)) ?_
              refine ASL.q (v := x119.w) rfl rfl (Light.quiet (kLd (f := RIn.raw) hS (j := 1) rfl hx119 rfl aggA_26 rfl RIn.cell)) ?_
              refine ASL.q (v := (.int .i64 x16_5)) rfl rfl (Light.quiet (opMove rfl rfl)) ?_
              refine ASL.q (v := (.agg [x119.w, (.int .i64 x16_5)])) rfl rfl (Light.quiet (opBuildZ (zs := [.nil, (.int .i64 0)]) rfl plan_28 zeroA_28 ⟨.inl rfl, .inl rfl, trivial⟩ (putO x119.h.1 rfl rfl (putN rfl rfl rfl)))) ?_
              refine ASL.q (v := (.list 2 (List.map RRs.raw [RRs.of x119 x16_5]))) rfl rfl ((qLit (xs := [(.agg [x119.w, (.int .i64 x16_5)])]) rfl elemA_44 sizeA_28 zeroA_28 rfl rfl rfl rfl (by simp [cells]) (nlt rfl))) ?_
              obtain ⟨z124, hz124, hF⟩ := bindE hF
              rw [← hrs] at hz124
              obtain ⟨happ, rfl⟩ := app_map (xs := [RRs.of x119 x16_5]) (g := RRs.t) hz124
              refine ASL.x rfl rfl (hApp (f := RRs.raw) (ws := [RRs.of x119 x16_5]) hS (j := 0) rfl happ rfl elemA_44 rfl sizeA_28 bytesA_28 zeroA_28 rfl rfl rfl RRs.ones ?_); rintro v124 G23 hS
              refine ASL.q (v := v124) rfl rfl (Light.quiet (opAssign rfl rfl)) ?_
              refine ASL.done ?_
              refine QBlock.nrm ?_
              refine QThen.nrm ?_
              obtain ⟨_, hb2, _⟩ := appE happ
              have hit : x15_l0.toNat = rs.length := by omega
              have htk := ix_take hx119
              obtain ⟨_, hxl, _⟩ := ixE hx119
              rw [hit] at htk
              exact ⟨_, v124, rs ++ [RRs.of x119 x16_5], by simp, by simpa using hb2, by simp only [List.length_append, List.length_singleton]; omega, rfl, by rw [List.flatMap_append, hrr, List.length_append, List.length_singleton, htk, List.flatMap_append]; rfl, ⟨rfl, rfl, rfl, rfl, rfl, trivial⟩, hS, hF⟩
            · skip
              refine AWP.seqR rfl ?_
              refine ASL.q (v := (.int .i64 0)) rfl rfl (Light.quiet (opAssign rfl rfl)) ?_
              refine ASL.done ?_
              refine AWP.block ?_
              obtain ⟨o29, hL28, hR30⟩ := bindE hF
              refine AWP.loopF (ω := Unit) hL28 (fun s w => [(3, (.rptr [(.int .i64 p0.letters), (.int .i64 p0.states), (.int .i64 p0.start), (.list 4 (List.map TEdge.av p0.edges))])), (8, w7), (13, (.int .i64 x13_2)), (14, w10), (15, (.int .i64 x15_l0)), (16, (.int .i64 s.1)), (17, (.int .i64 s.2))]) (fun s w => [.row 2 w10 (rs.map RRs.raw), .row 1 w7 (es.map RIn.raw), .pool (es.flatMap RIn.rows), .snap S]) () ⟨rfl, rfl, rfl, rfl, rfl, rfl, rfl, trivial⟩ hS ?_
              rintro ⟨x16_l1, x17_l1⟩ _ G31 hS x26 hF hx27
              try dsimp only at hS ⊢
              have hF : spec_l13Next.b1 p0 x8_1 x15_l0 x13_2 x16_l1 x17_l1 = some x26 := hF; unfold spec_l13Next.b1 at hF
              refine AWP.seq ?_
              refine AWP.seqR rfl ?_
              refine ASL.q (v := (.int .i64 x17_l1)) rfl rfl (Light.quiet (opMove rfl rfl)) ?_
              refine ASL.q (v := (.rptr [(.int .i64 p0.states), (.int .i64 p0.start), (.list 4 (List.map TEdge.av p0.edges))])) rfl rfl (Light.quiet (opFieldAddrR rfl fieldA_33_1 rfl rfl)) ?_
              refine ASL.q (v := (.int .i64 p0.states)) rfl rfl (Light.quiet (opLoadR rfl aggA_3 rfl rfl)) ?_
              refine ASL.q (v := (.bool (decide (x17_l1 < p0.states)))) rfl rfl (Light.quiet (opInt rfl rfl rfl rfl)) ?_
              refine ASL.done ?_
              refine AWP.ifP hF rfl (fun hc32 hF => ?_) (fun hc32 hF => ?_)
              · skip
                refine AWP.skip ?_
                refine QThen.nrm ?_
                refine AWP.seq ?_
                refine AWP.block ?_
                refine AWP.seqR rfl ?_
                refine ASL.q (v := w7) rfl rfl (Light.quiet (opMove rfl rfl)) ?_
                refine ASL.q (v := (.int .i64 x15_l0)) rfl rfl (Light.quiet (opMove rfl rfl)) ?_
                obtain ⟨a90, ha90, hF⟩ := bindE hF
                have ha90 := ha90
                have ha90k := ha90
                rw [← hes] at ha90
                obtain ⟨x90, hx90, hxa, hxm⟩ := ix_map ha90
                have hxa : x90.q = a90 := hxa
                subst hxa
                have hmx90 := RIn.m hxm
                refine ASL.q (v := (ptrTo w7 x15_l0.toNat 1)) rfl rfl (Light.quiet (kIxOx (f := RIn.raw) hS (j := 1) rfl hx90 rfl rfl rfl elemA_85 sizeA_26)) ?_
                refine ASL.q (v := x90.w) rfl rfl (Light.quiet (kLd (f := RIn.raw) hS (j := 1) rfl hx90 rfl aggA_26 rfl RIn.cell)) ?_
                refine ASL.q (v := (.int .i64 x17_l1)) rfl rfl (Light.quiet (opMove rfl rfl)) ?_
                obtain ⟨a93, ha93, hF⟩ := bindE hF
                refine ASL.q (v := (ptrTo x90.w x17_l1.toNat 1)) rfl rfl (Light.quiet (kIxP hS (j := 2) rfl hmx90 ha93 rfl rfl rfl elemA_26 sizeA_3)) ?_
                refine ASL.q (v := (.int .i64 a93)) rfl rfl (Light.quiet (kLdPo (f := (AV.int .i64)) hS (j := 2) rfl hmx90 ha93 rfl aggA_3 rfl (fun _ => rfl))) ?_
                refine ASL.q (v := (.bool (decide (a93 ≥ 0)))) rfl rfl (Light.quiet (opInt rfl rfl rfl rfl)) ?_
                obtain ⟨c96, hc96, hF⟩ := bndE hF
                refine ASL.q (v := (.bool c96)) rfl rfl ((Quiet.cast (Light.quiet (opMove rfl rfl)) (congrArg AV.bool hc96.symm))) ?_
                refine ASL.g (v := w7) (.bool c96) true rfl (wT _) rfl (fun hG => by have q0 := hG; subst q0; exact Light.quiet (opMove rfl rfl)) ?_
                refine ASL.g (v := (.int .i64 x15_l0)) (.bool c96) true rfl (wT _) rfl (fun hG => by have q0 := hG; subst q0; exact Light.quiet (opMove rfl rfl)) ?_
                obtain ⟨a99, ha99, hF⟩ := bindE hF
                refine ASL.g (v := (ptrTo w7 x15_l0.toNat 1)) (.bool c96) true rfl (wT _) rfl (fun hG => by have q0 := hG; subst q0; exact Light.quiet (kIxOx (f := RIn.raw) hS (j := 1) rfl hx90 rfl rfl rfl elemA_85 sizeA_26)) ?_
                refine ASL.g (v := x90.w) (.bool c96) true rfl (wT _) rfl (fun hG => by have q0 := hG; subst q0; exact Light.quiet (kLd (f := RIn.raw) hS (j := 1) rfl hx90 rfl aggA_26 rfl RIn.cell)) ?_
                refine ASL.g (v := (.int .i64 x17_l1)) (.bool c96) true rfl (wT _) rfl (fun hG => by have q0 := hG; subst q0; exact Light.quiet (opMove rfl rfl)) ?_
                obtain ⟨a102, ha102, hF⟩ := bindE hF
                have h99 : c96 = true → a99 = x90.q := fun g => by
                  subst g
                  have k1 := whenE ha99
                  rw [ha90k] at k1
                  exact (someE k1).symm
                refine ASL.g (v := (ptrTo x90.w x17_l1.toNat 1)) (.bool c96) true rfl (wT _) rfl (fun hG => by have q0 := hG; have k2 := h99 q0; subst q0; subst k2; exact Light.quiet (kIxP hS (j := 2) rfl hmx90 (whenE ha102) rfl rfl rfl elemA_26 sizeA_3)) ?_
                refine ASL.g (v := (.int .i64 a102)) (.bool c96) true rfl (wT _) rfl (fun hG => by have q0 := hG; have k2 := h99 q0; subst q0; subst k2; exact Light.quiet (kLdPo (f := (AV.int .i64)) hS (j := 2) rfl hmx90 (whenE ha102) rfl aggA_3 rfl (fun _ => rfl))) ?_
                refine ASL.g (v := (.int .i64 (Int.tmod a102 2))) (.bool c96) true rfl (wT _) rfl (fun hG => by have q0 := hG; subst q0; exact Light.quiet (opRem rfl rfl rfl (by decide) rfl)) ?_
                refine ASL.g (v := (.bool (decide (((Int.tmod a102 2)) = 0)))) (.bool c96) true rfl (wT _) rfl (fun hG => by have q0 := hG; subst q0; exact Light.quiet (opInt rfl rfl rfl rfl)) ?_
                refine ASL.q (v := (.bool (c96 && (decide (((Int.tmod a102 2)) = 0))))) rfl rfl (Light.quiet (opPick (b := c96) rfl rfl (by cases c96 <;> rfl))) ?_
                obtain ⟨c107, hc107, hF⟩ := bndE hF
                refine ASL.q (v := (.bool c107)) rfl rfl ((Quiet.cast (Light.quiet (opMove rfl rfl)) (congrArg AV.bool hc107.symm))) ?_
                refine ASL.g (v := (.int .i64 x13_2)) (.bool c107) true rfl (wT _) rfl (fun hG => by have q0 := hG; subst q0; exact Light.quiet (opMove rfl rfl)) ?_
                refine ASL.g (v := (.int .i64 x17_l1)) (.bool c107) true rfl (wT _) rfl (fun hG => by have q0 := hG; subst q0; exact Light.quiet (opMove rfl rfl)) ?_
                obtain ⟨a110, ha110, hF⟩ := bindE hF
                refine ASL.g (v := (.bool a110)) (.bool c107) true rfl (wT _) rfl (fun hG => by have q0 := hG; subst q0; exact (qCall rfl rfl call_30 (spec_l1Has_ok (whenE ha110)) rfl)) ?_
                refine ASL.q (v := (.bool (c107 && a110))) rfl rfl (Light.quiet (opPick (b := c107) rfl rfl (by cases c107 <;> rfl))) ?_
                refine ASL.done ?_
                refine AWP.ifB hF rfl (fun hc33 hF => ?_) (fun hc33 hF => ?_)
                · skip
                  refine AWP.lastR rfl ?_
                  refine ASL.q (v := (.int .i64 x16_l1)) rfl rfl (Light.quiet (opMove rfl rfl)) ?_
                  refine ASL.q (v := (.int .i64 x17_l1)) rfl rfl (Light.quiet (opMove rfl rfl)) ?_
                  obtain ⟨a114, ha114, hF⟩ := bindE hF
                  refine ASL.q (v := (.int .i64 a114)) rfl rfl ((qCall rfl rfl call_54 (spec_l1Bit_ok ha114) rfl)) ?_
                  refine ASL.q (v := (.int .i64 (bOr .i64 x16_l1 a114))) rfl rfl (Light.quiet (opInt rfl rfl rfl rfl)) ?_
                  refine ASL.q (v := (.int .i64 (bOr .i64 x16_l1 a114))) rfl rfl (Light.quiet (opAssign rfl rfl)) ?_
                  refine ASL.done ?_
                  refine QBlock.nrm ?_
                  refine QThen.nrm ?_
                  refine AWP.lastR rfl ?_
                  refine ASL.q (v := (.int .i64 x17_l1)) rfl rfl (Light.quiet (opMove rfl rfl)) ?_
                  refine ASL.q (v := (.int .i64 (W (x17_l1 + 1)))) rfl rfl (Light.quiet (opInt rfl rfl rfl rfl)) ?_
                  refine ASL.q (v := (.int .i64 (W (x17_l1 + 1)))) rfl rfl (Light.quiet (opAssign rfl rfl)) ?_
                  refine ASL.done ?_
                  refine QThen.nrm ?_
                  exact ⟨((bOr .i64 x16_l1 a114), (W (x17_l1 + 1))), (), (someE hF).symm, ⟨rfl, rfl, rfl, rfl, rfl, rfl, rfl, trivial⟩, hS⟩
                · skip
                  refine AWP.skip ?_
                  refine QBlock.nrm ?_
                  refine QThen.nrm ?_
                  refine AWP.lastR rfl ?_
                  refine ASL.q (v := (.int .i64 x17_l1)) rfl rfl (Light.quiet (opMove rfl rfl)) ?_
                  refine ASL.q (v := (.int .i64 (W (x17_l1 + 1)))) rfl rfl (Light.quiet (opInt rfl rfl rfl rfl)) ?_
                  refine ASL.q (v := (.int .i64 (W (x17_l1 + 1)))) rfl rfl (Light.quiet (opAssign rfl rfl)) ?_
                  refine ASL.done ?_
                  refine QThen.nrm ?_
                  exact ⟨(x16_l1, (W (x17_l1 + 1))), (), (someE hF).symm, ⟨rfl, rfl, rfl, rfl, rfl, rfl, rfl, trivial⟩, hS⟩
              · skip
                refine AWP.exit ?_
                refine QThen.ext ?_
                refine QThen.ext ?_
                refine QBlock.hit ?_
                obtain rfl := (hx27 _ (someE hF).symm)
                have hF := hR30
                refine QThen.nrm ?_
                exact ⟨x16_l1, ⟨rfl, rfl, rfl, rfl, rfl, rfl, trivial⟩, hS, hF⟩
        · skip
          refine AWP.exit ?_
          refine QThen.ext ?_
          refine QThen.ext ?_
          refine QBlock.hit ?_
          obtain rfl := (hx13 _ (someE hF).symm)
          have hF := hR16
          refine QThen.nrm ?_
          have hall : rs.length = es.length := by omega
          exact ⟨y9, w10, rs, hrs, by rw [hrr, hall, List.take_length], ⟨rfl, trivial⟩, hS, hF⟩
    · skip
      refine AWP.seqR rfl ?_
      refine ASL.q (v := (.rptr [(.int .i64 p1.owing)])) rfl rfl (Light.quiet (opFieldAddrR rfl fieldA_28_1 rfl rfl)) ?_
      refine ASL.q (v := (.int .i64 p1.owing)) rfl rfl (Light.quiet (opLoadR rfl aggA_3 rfl rfl)) ?_
      refine ASL.q (v := (.bool (decide (p1.owing ≠ 0)))) rfl rfl (Light.quiet (opInt rfl rfl rfl rfl)) ?_
      refine ASL.done ?_
      refine AWP.ifP hF rfl (fun hc35 hF => ?_) (fun hc35 hF => ?_)
      · skip
        refine AWP.lastR rfl ?_
        refine ASL.q (v := (TAuto.av p0)) rfl rfl (Light.quiet (opLoadRA rfl aggA_33 sizeA_33 rfl (nlt rfl) rfl)) ?_
        refine ASL.q (v := (.rptr [(.int .i64 p1.owing)])) rfl rfl (Light.quiet (opFieldAddrR rfl fieldA_28_1 rfl rfl)) ?_
        refine ASL.q (v := (.int .i64 p1.owing)) rfl rfl (Light.quiet (opLoadR rfl aggA_3 rfl rfl)) ?_
        refine ASL.q (v := (.int .i64 p2)) rfl rfl (Light.quiet (opMove rfl rfl)) ?_
        obtain ⟨a74, ha74, hF⟩ := bindE hF
        refine ASL.q (v := (.int .i64 a74)) rfl rfl ((qCall rfl rfl call_68 (spec_l4Next_ok ha74) rfl)) ?_
        refine ASL.q (v := (.int .i64 a74)) rfl rfl (Light.quiet (opAssign rfl rfl)) ?_
        refine ASL.done ?_
        refine QThen.nrm ?_
        exact ⟨a74, ⟨rfl, rfl, rfl, trivial⟩, hS, hF⟩
      · skip
        refine AWP.skip ?_
        refine QThen.nrm ?_
        exact ⟨(W (((shl .i64 1 p0.states)) - 1)), ⟨rfl, rfl, rfl, trivial⟩, hS, hF⟩
  · skip
    refine AWP.seqR rfl ?_
    refine ASL.q (v := (.int .i64 0)) rfl rfl (Light.quiet (opAssign rfl rfl)) ?_
    refine ASL.done ?_
    refine AWP.block ?_
    obtain ⟨o40, hL39, hR41⟩ := bindE hF
    refine AWP.loopI (ω := AV × List RIn) hL39 (fun s w => w.2.map RIn.t = s.1) (fun s w => [(2, (.int .i64 p2)), (3, (.rptr [(.int .i64 p0.letters), (.int .i64 p0.states), (.int .i64 p0.start), (.list 4 (List.map TEdge.av p0.edges))])), (4, (.rptr [(.list 1 (List.map (AV.int .i64) p1.ranks)), (.int .i64 p1.owing)])), (7, (.list 1 (List.map (AV.int .i64) a21))), (8, w.1), (9, (.int .i64 s.2))]) (fun s w => [.row 1 w.1 (w.2.map RIn.raw), .pool (w.2.flatMap RIn.rows), .snap S]) (v72, [RIn.mk v71 [] ⟨h71, c71⟩]) rfl ⟨rfl, rfl, rfl, rfl, rfl, rfl, trivial⟩ hS ?_
    rintro ⟨x8_l2, x9_l2⟩ ⟨w7, es⟩ G42 hes hS x37 hF hx38
    dsimp only at hes hS ⊢
    have hlen : es.length = x8_l2.length := by rw [← hes, List.length_map]
    have hF : spec_l13Next.b2 p0 a21 x8_l2 x9_l2 = some x37 := hF; unfold spec_l13Next.b2 at hF
    refine AWP.seq ?_
    refine AWP.seqR rfl ?_
    refine ASL.q (v := (.int .i64 x9_l2)) rfl rfl (Light.quiet (opMove rfl rfl)) ?_
    refine ASL.q (v := (.rptr [(.int .i64 p0.states), (.int .i64 p0.start), (.list 4 (List.map TEdge.av p0.edges))])) rfl rfl (Light.quiet (opFieldAddrR rfl fieldA_33_1 rfl rfl)) ?_
    refine ASL.q (v := (.int .i64 p0.states)) rfl rfl (Light.quiet (opLoadR rfl aggA_3 rfl rfl)) ?_
    refine ASL.q (v := (.bool (decide (x9_l2 < p0.states)))) rfl rfl (Light.quiet (opInt rfl rfl rfl rfl)) ?_
    refine ASL.done ?_
    refine AWP.ifP hF rfl (fun hc43 hF => ?_) (fun hc43 hF => ?_)
    · skip
      refine AWP.skip ?_
      refine QThen.nrm ?_
      refine AWP.seqM (fun e H => ∃ x8_6 : (List (List Int)), ∃ w7 : AV, ∃ es : List RIn, es.map RIn.t = x8_6 ∧ E.Told e [(2, (.int .i64 p2)), (3, (.rptr [(.int .i64 p0.letters), (.int .i64 p0.states), (.int .i64 p0.start), (.list 4 (List.map TEdge.av p0.edges))])), (4, (.rptr [(.list 1 (List.map (AV.int .i64) p1.ranks)), (.int .i64 p1.owing)])), (7, (.list 1 (List.map (AV.int .i64) a21))), (8, w7), (9, (.int .i64 x9_l2))] ∧ E.Sep H [.row 1 w7 (es.map RIn.raw), .pool (es.flatMap RIn.rows), .snap S] ∧ spec_l13Next.k5 x9_l2 x8_6 = some x37) ?_ ?_
      · rintro e0 G44 ⟨x8_6, w7, es, hes, hT, hS, hF⟩; refine AWP.only _ hT ?_; unfold spec_l13Next.k5 at hF
        refine AWP.lastR rfl ?_
        refine ASL.q (v := (.int .i64 x9_l2)) rfl rfl (Light.quiet (opMove rfl rfl)) ?_
        refine ASL.q (v := (.int .i64 (W (x9_l2 + 1)))) rfl rfl (Light.quiet (opInt rfl rfl rfl rfl)) ?_
        refine ASL.q (v := (.int .i64 (W (x9_l2 + 1)))) rfl rfl (Light.quiet (opAssign rfl rfl)) ?_
        refine ASL.done ?_
        refine QThen.nrm ?_
        exact ⟨(x8_6, (W (x9_l2 + 1))), (w7, es), (someE hF).symm, hes, ⟨rfl, rfl, rfl, rfl, rfl, rfl, trivial⟩, hS⟩
      · skip
        refine AWP.block ?_
        refine AWP.seqR rfl ?_
        have hS := hS.newPool
        refine ASL.x rfl rfl (hLit (f := RIn.raw) (zs := []) hS rfl rfl elemA_85 sizeA_26 zeroA_26 rfl rfl rfl rfl (by simp) (nlt rfl) ?_); rintro v30 G45 hK hS
        refine ASL.q (v := v30) rfl rfl (Light.quiet (opAssign rfl rfl)) ?_
        refine ASL.done ?_
        refine AWP.seqM (fun e H => ∃ y47 : (List (List Int)), ∃ w48 : AV, ∃ es2 : List RIn, es2.map RIn.t = y47 ∧ E.Told e [(2, (.int .i64 p2)), (3, (.rptr [(.int .i64 p0.letters), (.int .i64 p0.states), (.int .i64 p0.start), (.list 4 (List.map TEdge.av p0.edges))])), (4, (.rptr [(.list 1 (List.map (AV.int .i64) p1.ranks)), (.int .i64 p1.owing)])), (7, (.list 1 (List.map (AV.int .i64) a21))), (9, (.int .i64 x9_l2)), (10, w48)] ∧ E.Sep H [.row 1 w48 (es2.map RIn.raw), .pool (es2.flatMap RIn.rows), .row 1 w7 (es.map RIn.raw), .pool (es.flatMap RIn.rows), .snap S] ∧ spec_l13Next.k6 x9_l2 y47 = some x37) ?_ ?_
        · rintro e0 G51 ⟨y47, w48, es2, hes2, hT, hS, hF⟩; refine AWP.only _ hT ?_; unfold spec_l13Next.k6 at hF
          refine AWP.lastR rfl ?_
          refine ASL.q (v := w48) rfl rfl (Light.quiet (opMove rfl rfl)) ?_
          refine ASL.q (v := w48) rfl rfl (Light.quiet (opAssign rfl rfl)) ?_
          refine ASL.done ?_
          refine QBlock.nrm ?_
          refine QThen.nrm ?_
          exact ⟨y47, w48, es2, hes2, ⟨rfl, rfl, rfl, rfl, rfl, rfl, trivial⟩, (hS.pick [0, 1, 4] rfl rfl), hF⟩
        · skip
          refine AWP.seqR rfl ?_
          refine ASL.q (v := (.int .i64 0)) rfl rfl (Light.quiet (opAssign rfl rfl)) ?_
          refine ASL.done ?_
          refine AWP.block ?_
          obtain ⟨o58, hL57, hR59⟩ := bindE hF
          refine AWP.loopI (ω := AV × List RIn) hL57 (fun s w => w.2.map RIn.t = s.1) (fun s w => [(2, (.int .i64 p2)), (3, (.rptr [(.int .i64 p0.letters), (.int .i64 p0.states), (.int .i64 p0.start), (.list 4 (List.map TEdge.av p0.edges))])), (4, (.rptr [(.list 1 (List.map (AV.int .i64) p1.ranks)), (.int .i64 p1.owing)])), (7, (.list 1 (List.map (AV.int .i64) a21))), (8, w7), (9, (.int .i64 x9_l2)), (10, w.1), (11, (.int .i64 s.2))]) (fun s w => [.row 1 w.1 (w.2.map RIn.raw), .pool (w.2.flatMap RIn.rows), .row 1 w7 (es.map RIn.raw), .pool (es.flatMap RIn.rows), .snap S]) (v30, []) rfl ⟨rfl, rfl, rfl, rfl, rfl, rfl, rfl, rfl, trivial⟩ hS ?_
          rintro ⟨y52, x11_l3⟩ ⟨w53, es3⟩ G60 hes3 hS x55 hF hx56
          dsimp only at hes3 hS ⊢
          have hF : spec_l13Next.b3 x8_l2 a21 x9_l2 y52 x11_l3 = some x55 := hF; unfold spec_l13Next.b3 at hF
          refine AWP.seq ?_
          refine AWP.seqR rfl ?_
          refine ASL.q (v := (.int .i64 x11_l3)) rfl rfl (Light.quiet (opMove rfl rfl)) ?_
          refine ASL.q (v := w7) rfl rfl (Light.quiet (opMove rfl rfl)) ?_
          refine ASL.q (v := (.int .i64 (x8_l2.length : Int))) rfl rfl (Quiet.cast (Light.quiet (kLen hS (j := 2) rfl rfl rfl rfl lenT_85 rfl)) (by rw [hlen])) ?_
          refine ASL.q (v := (.bool (decide (x11_l3 < ((x8_l2.length : Int)))))) rfl rfl (Light.quiet (opInt rfl rfl rfl rfl)) ?_
          refine ASL.done ?_
          refine AWP.ifP hF rfl (fun hc61 hF => ?_) (fun hc61 hF => ?_)
          · skip
            refine AWP.skip ?_
            refine QThen.nrm ?_
            refine AWP.seqM (fun e H => ∃ y62 : (List (List Int)), ∃ w63 : AV, ∃ es4 : List RIn, es4.map RIn.t = y62 ∧ E.Told e [(2, (.int .i64 p2)), (3, (.rptr [(.int .i64 p0.letters), (.int .i64 p0.states), (.int .i64 p0.start), (.list 4 (List.map TEdge.av p0.edges))])), (4, (.rptr [(.list 1 (List.map (AV.int .i64) p1.ranks)), (.int .i64 p1.owing)])), (7, (.list 1 (List.map (AV.int .i64) a21))), (8, w7), (9, (.int .i64 x9_l2)), (10, w63), (11, (.int .i64 x11_l3))] ∧ E.Sep H [.row 1 w63 (es4.map RIn.raw), .pool (es4.flatMap RIn.rows), .row 1 w7 (es.map RIn.raw), .pool (es.flatMap RIn.rows), .snap S] ∧ spec_l13Next.k7 x11_l3 y62 = some x55) ?_ ?_
            · rintro e0 G65 ⟨y62, w63, es4, hes4, hT, hS, hF⟩; refine AWP.only _ hT ?_; unfold spec_l13Next.k7 at hF
              refine AWP.lastR rfl ?_
              refine ASL.q (v := (.int .i64 x11_l3)) rfl rfl (Light.quiet (opMove rfl rfl)) ?_
              refine ASL.q (v := (.int .i64 (W (x11_l3 + 1)))) rfl rfl (Light.quiet (opInt rfl rfl rfl rfl)) ?_
              refine ASL.q (v := (.int .i64 (W (x11_l3 + 1)))) rfl rfl (Light.quiet (opAssign rfl rfl)) ?_
              refine ASL.done ?_
              refine QThen.nrm ?_
              exact ⟨(y62, (W (x11_l3 + 1))), (w63, es4), (someE hF).symm, hes4, ⟨rfl, rfl, rfl, rfl, rfl, rfl, rfl, rfl, trivial⟩, hS⟩
            · skip
              refine AWP.block ?_
              refine AWP.seqR rfl ?_
              refine ASL.q (v := (.list 1 (List.map (AV.int .i64) a21))) rfl rfl (Light.quiet (opMove rfl rfl)) ?_
              refine ASL.q (v := (.int .i64 x9_l2)) rfl rfl (Light.quiet (opMove rfl rfl)) ?_
              obtain ⟨a39, ha39, hF⟩ := bindE hF
              refine ASL.q (v := (.rptr [(.int .i64 a39)])) rfl rfl (Light.quiet (kIx (f := (AV.int .i64)) ha39 rfl rfl rfl elemA_26 sizeA_3 rfl)) ?_
              refine ASL.q (v := (.int .i64 a39)) rfl rfl (Light.quiet (opLoadR rfl aggA_3 rfl rfl)) ?_
              refine ASL.q (v := (.int .i64 (spec_l1Min 0 a39))) rfl rfl ((qCall rfl rfl call_67 (spec_l1Min_ok 0 a39) rfl)) ?_
              refine ASL.q (v := (.int .i64 (spec_l1Min 0 a39))) rfl rfl (Light.quiet (opAssign rfl rfl)) ?_
              refine ASL.done ?_
              refine AWP.block ?_
              obtain ⟨o72, hL71, hR73⟩ := bindE hF
              refine AWP.loopI (ω := AV × List RIn) hL71 (fun s w => w.2.map RIn.t = s.1) (fun s w => [(2, (.int .i64 p2)), (3, (.rptr [(.int .i64 p0.letters), (.int .i64 p0.states), (.int .i64 p0.start), (.list 4 (List.map TEdge.av p0.edges))])), (4, (.rptr [(.list 1 (List.map (AV.int .i64) p1.ranks)), (.int .i64 p1.owing)])), (7, (.list 1 (List.map (AV.int .i64) a21))), (8, w7), (9, (.int .i64 x9_l2)), (10, w.1), (11, (.int .i64 x11_l3)), (12, (.int .i64 s.2))]) (fun s w => [.row 1 w.1 (w.2.map RIn.raw), .pool (w.2.flatMap RIn.rows), .row 1 w7 (es.map RIn.raw), .pool (es.flatMap RIn.rows), .snap S]) (w53, es3) hes3 ⟨rfl, rfl, rfl, rfl, rfl, rfl, rfl, rfl, rfl, trivial⟩ hS ?_
              rintro ⟨y66, x12_l4⟩ ⟨w67, es5⟩ G74 hes5 hS x69 hF hx70
              dsimp only at hes5 hS ⊢
              have hF : spec_l13Next.b4 a21 x9_l2 x8_l2 x11_l3 y66 x12_l4 = some x69 := hF; unfold spec_l13Next.b4 at hF
              refine AWP.seq ?_
              refine AWP.seqR rfl ?_
              refine ASL.q (v := (.int .i64 x12_l4)) rfl rfl (Light.quiet (opMove rfl rfl)) ?_
              refine ASL.q (v := (.list 1 (List.map (AV.int .i64) a21))) rfl rfl (Light.quiet (opMove rfl rfl)) ?_
              refine ASL.q (v := (.int .i64 x9_l2)) rfl rfl (Light.quiet (opMove rfl rfl)) ?_
              obtain ⟨a45, ha45, hF⟩ := bindE hF
              refine ASL.q (v := (.rptr [(.int .i64 a45)])) rfl rfl (Light.quiet (kIx (f := (AV.int .i64)) ha45 rfl rfl rfl elemA_26 sizeA_3 rfl)) ?_
              refine ASL.q (v := (.int .i64 a45)) rfl rfl (Light.quiet (opLoadR rfl aggA_3 rfl rfl)) ?_
              refine ASL.q (v := (.bool (decide (x12_l4 ≤ a45)))) rfl rfl (Light.quiet (opInt rfl rfl rfl rfl)) ?_
              refine ASL.done ?_
              refine AWP.ifP hF rfl (fun hc75 hF => ?_) (fun hc75 hF => ?_)
              · skip
                refine AWP.skip ?_
                refine QThen.nrm ?_
                refine AWP.seq ?_
                refine AWP.block ?_
                refine AWP.lastR rfl ?_
                refine ASL.q (v := w67) rfl rfl (Light.quiet (opMove rfl rfl)) ?_
                refine ASL.x rfl rfl (hLit (f := (AV.int .i64)) (zs := []) hS rfl rfl elemA_26 sizeA_3 zeroA_3 rfl rfl rfl rfl (by simp [cells]) (nlt rfl) ?_); rintro v51 G76 hK hS
                refine ASL.q (v := w7) rfl rfl (Light.quiet (opMove rfl rfl)) ?_
                refine ASL.q (v := (.int .i64 x11_l3)) rfl rfl (Light.quiet (opMove rfl rfl)) ?_
                obtain ⟨a54, ha54, hF⟩ := bindE hF
                rw [← hes] at ha54
                obtain ⟨x54, hx54, hxa, hxm⟩ := ix_map ha54
                have hxa : x54.q = a54 := hxa
                subst hxa
                have hmx54 := RIn.m hxm
                refine ASL.q (v := (ptrTo w7 x11_l3.toNat 1)) rfl rfl (Light.quiet (kIxOx (f := RIn.raw) hS (j := 3) rfl hx54 rfl rfl rfl elemA_85 sizeA_26)) ?_
                refine ASL.q (v := x54.w) rfl rfl (Light.quiet (kLd (f := RIn.raw) hS (j := 3) rfl hx54 rfl aggA_26 rfl RIn.cell)) ?_
                obtain ⟨z56, hz56, hF⟩ := bindE hF
                refine ASL.x rfl rfl (hAppP (f := (AV.int .i64)) (ws := x54.q) hS (j := 0) (i := 4) rfl rfl hmx54 hz56 rfl elemA_26 rfl sizeA_3 bytesA_3 zeroA_3 rfl rfl rfl (fun _ => rfl) ?_); rintro v56 G78 hS
                refine ASL.q (v := (.int .i64 x12_l4)) rfl rfl (Light.quiet (opMove rfl rfl)) ?_
                refine ASL.q (v := (.list 1 (List.map (AV.int .i64) [x12_l4]))) rfl rfl ((qLit (xs := [(.int .i64 x12_l4)]) rfl elemA_26 sizeA_3 zeroA_3 rfl rfl rfl rfl (by simp [cells]) (nlt rfl))) ?_
                obtain ⟨z59, hz59, hF⟩ := bindE hF
                refine ASL.x rfl rfl (hApp (f := (AV.int .i64)) (ws := [x12_l4]) hS (j := 0) rfl hz59 rfl elemA_26 rfl sizeA_3 bytesA_3 zeroA_3 rfl rfl rfl (fun _ => rfl) ?_); rintro v49 G83 hS
                have h49 := hS.one (k := 0) rfl
                have c49 : cells v49 = [v49] := (hS.get (k := 0) rfl : Own _ _ _ _).cells
                refine ASL.q (v := (.list 1 (List.map RIn.raw [RIn.mk v49 z59 ⟨h49, c49⟩]))) rfl rfl ((qLit (xs := [v49]) rfl elemA_85 sizeA_26 zeroA_26 rfl rfl rfl (by simp [told_one h49]) (by simp [c49]) (nlt rfl))) ?_
                obtain ⟨z61, hz61, hF⟩ := bindE hF
                rw [← hes5] at hz61
                obtain ⟨happ, rfl⟩ := app_map (xs := [RIn.mk v49 z59 ⟨h49, c49⟩]) (g := RIn.t) hz61
                refine ASL.x rfl rfl (hApp (f := RIn.raw) (ws := [RIn.mk v49 z59 ⟨h49, c49⟩]) hS (j := 1) rfl happ rfl elemA_85 rfl sizeA_26 bytesA_26 zeroA_26 rfl rfl rfl RIn.ones ?_); rintro v61 G84 hS
                have hS := (((hS.pick (L' := [.pool (es5.flatMap RIn.rows), .row 1 v49 (z59.map (AV.int .i64)), .row 1 v61 ((es5 ++ [RIn.mk v49 z59 ⟨h49, c49⟩]).map RIn.raw), .row 1 w7 (es.map RIn.raw), .pool (es.flatMap RIn.rows), .snap S]) [2, 0, 1, 3, 4, 5] rfl rfl).poolIn (k := 0) rfl).permPool (qs := (es5 ++ [RIn.mk v49 z59 ⟨h49, c49⟩]).flatMap RIn.rows) (by rw [List.flatMap_append]; exact List.perm_append_comm (l₁ := RIn.rows (RIn.mk v49 z59 ⟨h49, c49⟩)))).pick (L' := [.row 1 v61 ((es5 ++ [RIn.mk v49 z59 ⟨h49, c49⟩]).map RIn.raw), .pool ((es5 ++ [RIn.mk v49 z59 ⟨h49, c49⟩]).flatMap RIn.rows), .row 1 w7 (es.map RIn.raw), .pool (es.flatMap RIn.rows), .snap S]) [1, 0, 2, 3, 4] rfl rfl
                refine ASL.q (v := v61) rfl rfl (Light.quiet (opAssign rfl rfl)) ?_
                refine ASL.done ?_
                refine QBlock.nrm ?_
                refine QThen.nrm ?_
                refine AWP.lastR rfl ?_
                refine ASL.q (v := (.int .i64 x12_l4)) rfl rfl (Light.quiet (opMove rfl rfl)) ?_
                refine ASL.q (v := (.int .i64 (W (x12_l4 + 1)))) rfl rfl (Light.quiet (opInt rfl rfl rfl rfl)) ?_
                refine ASL.q (v := (.int .i64 (W (x12_l4 + 1)))) rfl rfl (Light.quiet (opAssign rfl rfl)) ?_
                refine ASL.done ?_
                refine QThen.nrm ?_
                exact ⟨(_, (W (x12_l4 + 1))), (v61, es5 ++ [RIn.mk v49 z59 ⟨h49, c49⟩]), (someE hF).symm, rfl, ⟨rfl, rfl, rfl, rfl, rfl, rfl, rfl, rfl, rfl, trivial⟩, hS⟩
              · skip
                refine AWP.exit ?_
                refine QThen.ext ?_
                refine QThen.ext ?_
                refine QBlock.hit ?_
                obtain rfl := (hx70 _ (someE hF).symm)
                have hF := hR73
                refine QBlock.nrm ?_
                refine QThen.nrm ?_
                exact ⟨y66, w67, es5, hes5, ⟨rfl, rfl, rfl, rfl, rfl, rfl, rfl, rfl, trivial⟩, hS, hF⟩
          · skip
            refine AWP.exit ?_
            refine QThen.ext ?_
            refine QThen.ext ?_
            refine QBlock.hit ?_
            obtain rfl := (hx56 _ (someE hF).symm)
            have hF := hR59
            refine QThen.nrm ?_
            exact ⟨y52, w53, es3, hes3, ⟨rfl, rfl, rfl, rfl, rfl, rfl, trivial⟩, hS, hF⟩
    · skip
      refine AWP.exit ?_
      refine QThen.ext ?_
      refine QThen.ext ?_
      refine QBlock.hit ?_
      obtain rfl := (hx38 _ (someE hF).symm)
      have hF := hR41
      refine QThen.nrm ?_
      exact ⟨x8_l2, w7, es, hes, ⟨rfl, rfl, rfl, rfl, trivial⟩, hS, hF⟩
set_option maxRecDepth 10000 in
theorem spec_RankNext_own {p0 : TAuto} {p1 : TRankState} {p2 : Int} {r : (List TRankState)} (hF : spec_RankNext p0 p1 p2 = some r) : HS Try.prog 18 [(TAuto.av p0), (TRankState.av p1), (.int .i64 p2)] [] fun v L' => ∃ rs : List RRs, rs.map RRs.t = r ∧ L' = [.row 2 v (rs.map RRs.raw), .pool (rs.flatMap RRs.rows)] := by
  intro H S hS
  refine HC.enter Try.func18 rfl Try.ntmps18 (by simp) ?_
  simp only [List.nil_append] at hS
  unfold spec_RankNext at hF
  refine AWP.seqR rfl ?_
  refine ASL.q (v := (.rptr [(.int .i64 p0.letters), (.int .i64 p0.states), (.int .i64 p0.start), (.list 4 (List.map TEdge.av p0.edges))])) rfl rfl ((qBoxI (v := (TAuto.av p0)) rfl rfl rfl rfl)) ?_
  refine ASL.q (v := (.rptr [(.list 1 (List.map (AV.int .i64) p1.ranks)), (.int .i64 p1.owing)])) rfl rfl ((qBoxI (v := (TRankState.av p1)) rfl rfl rfl rfl)) ?_
  refine ASL.q (v := .nil) rfl rfl (Light.quiet (opAssign rfl rfl)) ?_
  refine ASL.done ?_
  refine AWP.seq ?_
  refine AWP.seqR rfl ?_
  refine ASL.q (v := (TAuto.av p0)) rfl rfl (Light.quiet (opLoadRA rfl aggA_33 sizeA_33 rfl (nlt rfl) rfl)) ?_
  refine ASL.q (v := (TRankState.av p1)) rfl rfl (Light.quiet (opLoadRA rfl aggA_28 sizeA_28 rfl (nlt rfl) rfl)) ?_
  obtain ⟨a9, ha9, hF⟩ := bindE hF
  refine ASL.q (v := (.bool a9)) rfl rfl ((qCall rfl rfl call_19 (spec_RankOk_ok ha9) rfl)) ?_
  refine ASL.q (v := (.bool (!a9))) rfl rfl (Light.quiet (opNot rfl rfl)) ?_
  obtain ⟨c11, hc11, hF⟩ := bndE hF
  refine ASL.q (v := (.bool c11)) rfl rfl ((Quiet.cast (Light.quiet (opMove rfl rfl)) (congrArg AV.bool hc11.symm))) ?_
  refine ASL.g (v := (.int .i64 p2)) (.bool c11) false rfl (wF _) rfl (fun hG => by have q0 := gN hG; subst q0; exact Light.quiet (opMove rfl rfl)) ?_
  refine ASL.g (v := (.rptr [(.int .i64 p0.letters), (.int .i64 p0.states), (.int .i64 p0.start), (.list 4 (List.map TEdge.av p0.edges))])) (.bool c11) false rfl (wF _) rfl (fun hG => by have q0 := gN hG; subst q0; exact Light.quiet (opFieldAddrR rfl fieldA_33_0 rfl rfl)) ?_
  refine ASL.g (v := (.int .i64 p0.letters)) (.bool c11) false rfl (wF _) rfl (fun hG => by have q0 := gN hG; subst q0; exact Light.quiet (opLoadR rfl aggA_3 rfl rfl)) ?_
  refine ASL.g (v := (.int .i64 (W (p0.letters - 1)))) (.bool c11) false rfl (wF _) rfl (fun hG => by have q0 := gN hG; subst q0; exact Light.quiet (opInt rfl rfl rfl rfl)) ?_
  refine ASL.g (v := (.bool (spec_l1In p2 0 ((W (p0.letters - 1)))))) (.bool c11) false rfl (wF _) rfl (fun hG => by have q0 := gN hG; subst q0; exact (qCall rfl rfl call_45 (spec_l1In_ok p2 0 ((W (p0.letters - 1)))) rfl)) ?_
  refine ASL.g (v := (.bool (!(spec_l1In p2 0 ((W (p0.letters - 1))))))) (.bool c11) false rfl (wF _) rfl (fun hG => by have q0 := gN hG; subst q0; exact Light.quiet (opNot rfl rfl)) ?_
  refine ASL.q (v := (.bool (c11 || (!(spec_l1In p2 0 ((W (p0.letters - 1)))))))) rfl rfl (Light.quiet (opPick (b := c11) rfl rfl (by cases c11 <;> rfl))) ?_
  refine ASL.done ?_
  refine AWP.ifB hF rfl (fun hc2 hF => ?_) (fun hc2 hF => ?_)
  · skip
    refine AWP.seqR rfl ?_
    refine ASL.x rfl rfl (hLit (f := RRs.raw) (zs := []) hS.newPool rfl rfl elemA_44 sizeA_28 zeroA_28 rfl rfl rfl rfl (by simp) (nlt rfl) ?_); rintro v19 G3 hK hS
    refine ASL.q (v := v19) rfl rfl (Light.quiet (opAssign rfl rfl)) ?_
    refine ASL.done ?_
    refine AWP.ret ?_
    refine QThen.rt ?_
    obtain rfl := someE hF
    exact QRet.sole (v := v19) ⟨rfl, trivial⟩ ⟨_, ⟨[], rfl, rfl⟩, hS⟩
  · skip
    refine AWP.skip ?_
    refine QThen.nrm ?_
    refine AWP.seqR rfl ?_
    refine ASL.q (v := (TAuto.av p0)) rfl rfl (Light.quiet (opLoadRA rfl aggA_33 sizeA_33 rfl (nlt rfl) rfl)) ?_
    refine ASL.q (v := (TRankState.av p1)) rfl rfl (Light.quiet (opLoadRA rfl aggA_28 sizeA_28 rfl (nlt rfl) rfl)) ?_
    refine ASL.q (v := (.int .i64 p2)) rfl rfl (Light.quiet (opMove rfl rfl)) ?_
    obtain ⟨a23, ha23, hF⟩ := bindE hF
    refine ASL.x rfl rfl (hCallS hS [0] (F := [.snap S]) rfl rfl rfl call_46 (spec_l13Next_own ha23) rfl rfl ?_); rintro v23 _ G5 ⟨rs, hrs, rfl⟩ hS
    refine ASL.q (v := v23) rfl rfl (Light.quiet (opAssign rfl rfl)) ?_
    refine ASL.done ?_
    refine AWP.ret ?_
    obtain rfl := someE hF
    exact QRet.sole (v := v23) ⟨rfl, trivial⟩ ⟨_, ⟨rs, hrs, rfl⟩, hS⟩
set_option maxRecDepth 10000 in
theorem spec_l13DrawState_ok {p0 : Tl1Cur} {p1 : TAuto} {r : (TRankState × Tl1Cur)} {bp0 : Nat} (hF : spec_l13DrawState p0 p1 = some r) : HS Try.prog 41 [(.ptr bp0 0), (TAuto.av p1)] [.cell bp0 [(.list 1 (List.map (AV.int .u8) p0.b)), (.int .i64 p0.i), (.int .i64 p0.h)]] fun v L' => ∃ o0_Ranks : AV, v = (.agg [o0_Ranks, (.int .i64 r.1.owing)]) ∧ L' = [.row 1 o0_Ranks (List.map (AV.int .i64) r.1.ranks), .cell bp0 [(.list 1 (List.map (AV.int .u8) r.2.b)), (.int .i64 r.2.i), (.int .i64 r.2.h)]] := by
  intro H S hS
  refine HC.enter Try.func41 rfl Try.ntmps41 (by simp) ?_
  simp only [List.cons_append, List.nil_append] at hS
  unfold spec_l13DrawState at hF
  have sz0 : zeroA Try.prog 28 = some (.agg #[(.slice none 0 0), (.int .i64 0)]) := by kernel_rfl
  refine AWP.seqR rfl ?_
  refine ASL.q (v := (.rptr [(.int .i64 p1.letters), (.int .i64 p1.states), (.int .i64 p1.start), (.list 4 (List.map TEdge.av p1.edges))])) rfl rfl ((qBoxI (v := (TAuto.av p1)) rfl rfl rfl rfl)) ?_
  refine ASL.x rfl rfl (hNewZ hS [.nil, (.int .i64 0)] rfl sz0 ⟨.inl rfl, .inl rfl, trivial⟩ ?_); rintro b4 G1 hK hS
  refine ASL.done ?_
  refine AWP.seqR rfl ?_
  refine ASL.q (v := (TAuto.av p1)) rfl rfl (Light.quiet (opLoadRA rfl aggA_33 sizeA_33 rfl (nlt rfl) rfl)) ?_
  obtain ⟨a11, ha11, hF⟩ := bindE hF
  refine ASL.x rfl rfl (hCallS hS [0, 1, 2] (L := []) (F := [.cell b4 [.nil, (.int .i64 0)], .cell bp0 [(.list 1 (List.map (AV.int .u8) p0.b)), (.int .i64 p0.i), (.int .i64 p0.h)], .snap S]) rfl rfl rfl (by kernel_rfl) (spec_RankStart_ok ha11) rfl rfl ?_); rintro _ _ G2 ⟨w11, rfl, rfl⟩ hS
  refine ASL.q (v := (.tup [(.agg [w11, (.int .i64 a11.1.owing)]), (.bool a11.2)])) rfl rfl (Light.quiet (opMove rfl rfl)) ?_
  refine ASL.q (v := (.agg [w11, (.int .i64 a11.1.owing)])) rfl rfl (Light.quiet (opExtract rfl rfl rfl)) ?_
  refine ASL.q (v := (.bool a11.2)) rfl rfl (Light.quiet (opExtract rfl rfl rfl)) ?_
  refine ASL.x rfl rfl (hNewZ hS [.nil, (.int .i64 0)] rfl sz0 ⟨.inl rfl, .inl rfl, trivial⟩ ?_); rintro b5 G3 hK hS
  refine ASL.n rfl rfl (hPutA hS (j := 0) rfl rfl sizeA_28 rfl rfl rfl rfl (allC (hS.one (k := 1) rfl) (allC rfl rfl)) (nlt rfl) ?_); rintro G4 hS
  refine ASL.q (v := (.bool a11.2)) rfl rfl (Light.quiet (opAssign rfl rfl)) ?_
  refine ASL.done ?_
  have hS := hS.pick (L' := [.row 1 w11 (List.map (AV.int .i64) a11.1.ranks), .cell b5 [w11, (.int .i64 a11.1.owing)], .cell b4 [.nil, (.int .i64 0)], .cell bp0 [(.list 1 (List.map (AV.int .u8) p0.b)), (.int .i64 p0.i), (.int .i64 p0.h)], .snap S]) [1, 0, 2, 3, 4] rfl rfl
  obtain ⟨qL, hL, hF⟩ := bindE hF
  generalize a11.2 = ok at hL
  refine AWP.seqM (fun e H => ∃ wq : AV, E.Told e [(0, (.ptr bp0 0)), (4, (.ptr b4 0)), (5, (.ptr b5 0))] ∧ E.Sep H [.row 1 wq (List.map (AV.int .i64) qL.1.ranks), .cell b5 [wq, (.int .i64 qL.1.owing)], .cell b4 [.nil, (.int .i64 0)], .cell bp0 [(.list 1 (List.map (AV.int .u8) qL.2.b)), (.int .i64 qL.2.i), (.int .i64 qL.2.h)], .snap S]) ?_ ?_
  · rintro e0 G5 ⟨wq, hT, hS⟩; refine AWP.only _ hT ?_
    unfold spec_l13DrawState.k0 at hF
    obtain ⟨s, c⟩ := qL
    dsimp only at hF hS ⊢
    refine AWP.seqM (fun e H => ∃ wr : AV, E.Told e [(4, (.ptr b4 0)), (5, (.ptr b5 0))] ∧ E.Sep H [.row 1 wr (List.map (AV.int .i64) r.1.ranks), .cell b5 [wr, (.int .i64 r.1.owing)], .cell b4 [.nil, (.int .i64 0)], .cell bp0 [(.list 1 (List.map (AV.int .u8) r.2.b)), (.int .i64 r.2.i), (.int .i64 r.2.h)], .snap S]) ?_ ?_
    · rintro e0 G6 ⟨wr, hT, hS⟩; refine AWP.only _ hT ?_
      refine AWP.seqR rfl ?_
      refine ASL.q (v := (.agg [wr, (.int .i64 r.1.owing)])) rfl rfl (Light.quiet (kAtA hS (j := 1) rfl rfl aggA_28 sizeA_28 rfl (nlt rfl) rfl)) ?_
      refine ASL.n rfl rfl (hPutA hS (j := 2) rfl rfl sizeA_28 rfl rfl rfl rfl (allC (hS.one (k := 0) rfl) (allC rfl rfl)) (nlt rfl) ?_); rintro G7 hS
      refine ASL.done ?_
      refine AWP.ret ?_
      exact QRet.sole (v := (.agg [wr, (.int .i64 r.1.owing)])) ⟨resOne.at hS (k := 2) rfl rfl aggA_28 sizeA_28, trivial⟩ ⟨_, ⟨wr, rfl, rfl⟩, hS.pick [0, 3, 4] rfl rfl⟩
    · skip
      refine AWP.seqR rfl ?_
      refine ASL.q (v := (.ptr bp0 0)) rfl rfl (Light.quiet (opMove rfl rfl)) ?_
      obtain ⟨a42, ha42, hF⟩ := bindE hF
      refine ASL.x rfl rfl (hCallS hS [3, 0, 1, 2, 4] (F := [.row 1 wq (List.map (AV.int .i64) s.ranks), .cell b5 [wq, (.int .i64 s.owing)], .cell b4 [.nil, (.int .i64 0)], .snap S]) rfl rfl rfl (by kernel_rfl) (spec_l1Below_ok ha42) rfl rfl ?_); rintro _ _ G8 ⟨rfl, rfl⟩ hS
      have hS := hS.pick (L' := [.row 1 wq (List.map (AV.int .i64) s.ranks), .cell b5 [wq, (.int .i64 s.owing)], .cell b4 [.nil, (.int .i64 0)], .cell bp0 [(.list 1 (List.map (AV.int .u8) a42.2.b)), (.int .i64 a42.2.i), (.int .i64 a42.2.h)], .snap S]) [1, 2, 3, 0, 4] rfl rfl
      refine ASL.done ?_
      refine AWP.block ?_
      refine AWP.seqR rfl ?_
      refine ASL.q (v := (.bool (decide (a42.1 = 0)))) rfl rfl (Light.quiet (opInt rfl rfl rfl rfl)) ?_
      refine ASL.q (v := (.bool (decide (a42.1 = 0)))) rfl rfl (Light.quiet (opAssign rfl rfl)) ?_
      refine ASL.done ?_
      refine AWP.ifP hF rfl (fun hc hF => ?_) (fun hc hF => ?_)
      · skip
        refine AWP.lastR rfl ?_
        refine ASL.q (v := (.ptr bp0 0)) rfl rfl (Light.quiet (opMove rfl rfl)) ?_
        obtain ⟨a46, ha46, hF⟩ := bindE hF
        refine ASL.x rfl rfl (hCallS hS [3, 0, 1, 2, 4] (F := [.row 1 wq (List.map (AV.int .i64) s.ranks), .cell b5 [wq, (.int .i64 s.owing)], .cell b4 [.nil, (.int .i64 0)], .snap S]) rfl rfl rfl (by kernel_rfl) (spec_l1Below_ok ha46) rfl rfl ?_); rintro _ _ G9 ⟨rfl, rfl⟩ hS
        have hS := hS.pick (L' := [.row 1 wq (List.map (AV.int .i64) s.ranks), .cell b5 [wq, (.int .i64 s.owing)], .cell b4 [.nil, (.int .i64 0)], .cell bp0 [(.list 1 (List.map (AV.int .u8) a46.2.b)), (.int .i64 a46.2.i), (.int .i64 a46.2.h)], .snap S]) [1, 2, 3, 0, 4] rfl rfl
        refine ASL.q (v := (.ptr b5 1)) rfl rfl (Light.quiet (opFieldAddr rfl fieldA_28_1 rfl rfl)) ?_
        refine ASL.n rfl rfl (hPut hS (j := 1) rfl rfl sizeA_3 rfl rfl rfl (nlt rfl) ?_); rintro G10 hS
        refine ASL.done ?_
        obtain rfl := someE hF
        refine QBlock.nrm ?_
        refine QThen.nrm ?_
        exact ⟨wq, ⟨rfl, rfl, trivial⟩, hS⟩
      · skip
        refine AWP.seqR rfl ?_
        refine ASL.q (v := (.bool (decide (a42.1 = 1)))) rfl rfl (Light.quiet (opInt rfl rfl rfl rfl)) ?_
        refine ASL.q (v := (.bool (decide (a42.1 = 1)))) rfl rfl (Light.quiet (opAssign rfl rfl)) ?_
        refine ASL.done ?_
        refine AWP.ifP hF rfl (fun hc hF => ?_) (fun hc hF => ?_)
        · skip
          refine AWP.seqR rfl ?_
          refine ASL.q (v := (.ptr b5 0)) rfl rfl (Light.quiet (opFieldAddr rfl fieldA_28_0 rfl rfl)) ?_
          refine ASL.q (v := wq) rfl rfl (Light.quiet (kAt hS (j := 1) rfl rfl aggA_26 rfl rfl)) ?_
          refine ASL.q (v := (.int .i64 (s.ranks.length : Int))) rfl rfl (Light.quiet (kLen hS (j := 0) rfl rfl rfl rfl lenT_26 rfl)) ?_
          refine ASL.q (v := (.bool (decide ((s.ranks.length : Int) > 0)))) rfl rfl (Light.quiet (opInt rfl rfl rfl rfl)) ?_
          refine ASL.done ?_
          refine AWP.ifP hF rfl (fun hc hF => ?_) (fun hc hF => ?_)
          · skip
            obtain ⟨a57, ha57, hF⟩ := bindE hF
            obtain ⟨m, hm, hF⟩ := bindE hF
            refine AWP.lastD [(0, false), (1, false), (2, false), (3, true), (4, false), (5, false), (6, true)] mixed (by kernel_rfl) rfl ?_
            refine ARL.q0 (v := (.ptr b5 0)) rfl rfl (Light.quiet (opFieldAddr rfl fieldA_28_0 rfl rfl)) ?_
            refine ARL.q (v := wq) rfl rfl (hS.aliveC (k := 1) rfl) (Light.quiet (kAt hS (j := 1) rfl rfl aggA_26 rfl rfl)) ?_
            refine ARL.q0 (v := (.ptr bp0 0)) rfl rfl (Light.quiet (opMove rfl rfl)) ?_
            refine ARL.yK (fs := [.row 1 wq (List.map (AV.int .i64) s.ranks), .cell b5 [wq, (.int .i64 s.owing)], .cell b4 [.nil, (.int .i64 0)], .snap S]) rfl rfl rfl (by repeat' (first | exact trivial | refine ⟨?_, ?_⟩ | exact .inl rfl | exact .inr (inF (r := .cell b5 [wq, (.int .i64 s.owing)]) (k := 1) rfl) | exact .inr (by simp))) (hCallSB hS [3, 0, 1, 2, 4] (F := [.row 1 wq (List.map (AV.int .i64) s.ranks), .cell b5 [wq, (.int .i64 s.owing)], .cell b4 [.nil, (.int .i64 0)], .snap S]) rfl rfl rfl (by kernel_rfl) (spec_l1Below_ok ha57) rfl rfl ?_); rintro _ _ G11 ⟨rfl, rfl⟩ hB hS; refine ⟨hB, ?_⟩
            have hS := hS.pick (L' := [.row 1 wq (List.map (AV.int .i64) s.ranks), .cell b5 [wq, (.int .i64 s.owing)], .cell b4 [.nil, (.int .i64 0)], .cell bp0 [(.list 1 (List.map (AV.int .u8) a57.2.b)), (.int .i64 a57.2.i), (.int .i64 a57.2.h)], .snap S]) [1, 2, 3, 0, 4] rfl rfl
            refine ARL.q0 (v := (.int .i64 (W (a57.1 - 2)))) rfl rfl (Light.quiet (opInt rfl rfl rfl rfl)) ?_
            refine ARL.q0 (v := (ptrTo wq m 1)) rfl rfl (Light.quiet (kIxO (f := (AV.int .i64)) hS (j := 0) rfl hm rfl rfl rfl elemA_26 sizeA_3)) ?_
            refine ARL.n rfl rfl rfl rfl (hSt (f := (AV.int .i64)) (a := (W (a57.1 - 2))) hS (j := 0) rfl hm rfl sizeA_3 rfl rfl ⟨rfl, rfl, rfl⟩ ?_); rintro G12 hS
            refine ARL.done ?_
            obtain rfl := someE hF
            refine QBlock.nrm ?_
            refine QThen.nrm ?_
            exact ⟨wq, ⟨rfl, rfl, trivial⟩, hS⟩
          · skip
            refine AWP.skip ?_
            obtain rfl := someE hF
            refine QBlock.nrm ?_
            refine QThen.nrm ?_
            exact ⟨wq, ⟨rfl, rfl, trivial⟩, hS⟩
        · skip
          refine AWP.seqR rfl ?_
          refine ASL.q (v := (.bool (decide (a42.1 = 2)))) rfl rfl (Light.quiet (opInt rfl rfl rfl rfl)) ?_
          refine ASL.q (v := (.bool (decide (a42.1 = 2)))) rfl rfl (Light.quiet (opAssign rfl rfl)) ?_
          refine ASL.done ?_
          refine AWP.ifP hF rfl (fun hc hF => ?_) (fun hc hF => ?_)
          · skip
            refine AWP.lastR rfl ?_
            refine ASL.q (v := (.ptr b5 0)) rfl rfl (Light.quiet (opFieldAddr rfl fieldA_28_0 rfl rfl)) ?_
            refine ASL.q (v := wq) rfl rfl (Light.quiet (kAt hS (j := 1) rfl rfl aggA_26 rfl rfl)) ?_
            refine ASL.q (v := (.list 1 (List.map (AV.int .i64) [0]))) rfl rfl ((qLit (xs := [(.int .i64 0)]) rfl elemA_26 sizeA_3 zeroA_3 rfl rfl rfl rfl (by simp [cells]) (nlt rfl))) ?_
            obtain ⟨z, hz, hF⟩ := bindE hF
            refine ASL.x rfl rfl (hApp (f := (AV.int .i64)) (ws := [0]) hS (j := 0) rfl hz rfl elemA_26 rfl sizeA_3 bytesA_3 zeroA_3 rfl rfl rfl (fun _ => rfl) ?_); rintro wz G13 hS
            refine ASL.q (v := (.ptr b5 0)) rfl rfl (Light.quiet (opFieldAddr rfl fieldA_28_0 rfl rfl)) ?_
            refine ASL.n rfl rfl (hPut hS (j := 1) rfl rfl sizeA_26 rfl rfl (hS.one (k := 0) rfl) (nlt rfl) ?_); rintro G14 hS
            refine ASL.done ?_
            obtain rfl := someE hF
            refine QBlock.nrm ?_
            refine QThen.nrm ?_
            exact ⟨wz, ⟨rfl, rfl, trivial⟩, hS⟩
          · skip
            refine AWP.skip ?_
            obtain rfl := someE hF
            refine QBlock.nrm ?_
            refine QThen.nrm ?_
            exact ⟨wq, ⟨rfl, rfl, trivial⟩, hS⟩
  · skip
    refine AWP.seqR rfl ?_
    refine ASL.q (v := (.int .i64 0)) rfl rfl (Light.quiet (opAssign rfl rfl)) ?_
    refine ASL.done ?_
    refine AWP.block ?_
    refine AWP.loopF (ω := AV) hL (fun s w => [(0, (.ptr bp0 0)), (3, (.rptr [(.int .i64 p1.letters), (.int .i64 p1.states), (.int .i64 p1.start), (.list 4 (List.map TEdge.av p1.edges))])), (4, (.ptr b4 0)), (5, (.ptr b5 0)), (6, (.bool ok)), (7, (.int .i64 s.2.2))]) (fun s w => [.row 1 w (List.map (AV.int .i64) s.1.ranks), .cell b5 [w, (.int .i64 s.1.owing)], .cell b4 [.nil, (.int .i64 0)], .cell bp0 [(.list 1 (List.map (AV.int .u8) s.2.1.b)), (.int .i64 s.2.1.i), (.int .i64 s.2.1.h)], .snap S]) w11 ⟨rfl, rfl, rfl, rfl, rfl, rfl, trivial⟩ hS ?_
    rintro ⟨s, c, x7⟩ wv G15 hS x hF hx
    dsimp only at hS ⊢
    have hF : spec_l13DrawState.b0 p1 ok s c x7 = some x := hF; unfold spec_l13DrawState.b0 at hF
    cases ok with
    | false =>
      rw [if_neg (by simp)] at hF
      refine AWP.seq ?_
      refine AWP.seqR rfl ?_
      refine ASL.q (v := (.bool false)) rfl rfl (Light.quiet (opMove rfl rfl)) ?_
      refine ASL.q (v := (.bool false)) rfl rfl (Light.quiet (opMove rfl rfl)) ?_
      refine ASL.g (D := []) (v := .undef) (.bool false) true rfl (wT _) rfl (fun hG => by cases hG) ?_
      refine ASL.g (D := []) (v := .undef) (.bool false) true rfl (wT _) rfl (fun hG => by cases hG) ?_
      refine ASL.g (D := []) (v := .undef) (.bool false) true rfl (wT _) rfl (fun hG => by cases hG) ?_
      refine ASL.g (D := []) (v := .undef) (.bool false) true rfl (wT _) rfl (fun hG => by cases hG) ?_
      refine ASL.q (v := (.bool false)) rfl rfl (Light.quiet (opPick (b := false) rfl rfl rfl)) ?_
      refine ASL.done ?_
      refine AWP.condF rfl ?_
      refine AWP.exit ?_
      refine QThen.ext ?_
      refine QThen.ext ?_
      refine QBlock.hit ?_
      obtain rfl := (hx _ (someE hF).symm)
      refine QThen.nrm ?_
      exact ⟨wv, ⟨rfl, rfl, rfl, trivial⟩, hS⟩
    | true =>
      rw [if_pos rfl] at hF
      obtain ⟨a18, ha18, hF⟩ := bindE hF
      refine AWP.seq ?_
      refine AWP.seqR rfl ?_
      refine ASL.q (v := (.bool true)) rfl rfl (Light.quiet (opMove rfl rfl)) ?_
      refine ASL.q (v := (.bool true)) rfl rfl (Light.quiet (opMove rfl rfl)) ?_
      refine ASL.q (v := (.int .i64 x7)) rfl rfl (Light.quiet (opMove rfl rfl)) ?_
      refine ASL.q (v := (.ptr bp0 0)) rfl rfl (Light.quiet (opMove rfl rfl)) ?_
      refine ASL.x rfl rfl (hCallS hS [3, 0, 1, 2, 4] (F := [.row 1 wv (List.map (AV.int .i64) s.ranks), .cell b5 [wv, (.int .i64 s.owing)], .cell b4 [.nil, (.int .i64 0)], .snap S]) rfl rfl rfl (by kernel_rfl) (spec_l1Below_ok ha18) rfl rfl ?_); rintro _ _ G16 ⟨rfl, rfl⟩ hS
      have hS := hS.pick (L' := [.row 1 wv (List.map (AV.int .i64) s.ranks), .cell b5 [wv, (.int .i64 s.owing)], .cell b4 [.nil, (.int .i64 0)], .cell bp0 [(.list 1 (List.map (AV.int .u8) a18.2.b)), (.int .i64 a18.2.i), (.int .i64 a18.2.h)], .snap S]) [1, 2, 3, 0, 4] rfl rfl
      refine ASL.q (v := (.bool (decide (x7 < a18.1)))) rfl rfl (Light.quiet (opInt rfl rfl rfl rfl)) ?_
      refine ASL.q (v := (.bool (decide (x7 < a18.1)))) rfl rfl (Light.quiet (opPick (b := true) rfl rfl rfl)) ?_
      refine ASL.done ?_
      refine AWP.ifP hF rfl (fun hc hF => ?_) (fun hc hF => ?_)
      · skip
        refine AWP.skip ?_
        refine QThen.nrm ?_
        refine AWP.seq ?_
        refine AWP.block ?_
        obtain ⟨a29, ha29, hF⟩ := bindE hF
        obtain ⟨a30, ha30, hF⟩ := bindE hF
        refine AWP.seqD [(0, false), (1, false), (2, false), (3, false), (4, false), (5, false), (6, true), (7, true), (8, false)] mixed (by kernel_rfl) rfl ?_
        refine ARL.q0 (v := (TAuto.av p1)) rfl rfl (Light.quiet (opLoadRA rfl aggA_33 sizeA_33 rfl (nlt rfl) rfl)) ?_
        refine ARL.q (v := (.agg [wv, (.int .i64 s.owing)])) rfl rfl (hS.aliveC (k := 1) rfl) (Light.quiet (kAtA hS (j := 1) rfl rfl aggA_28 sizeA_28 rfl (nlt rfl) rfl)) ?_
        refine ARL.q0 (v := (.ptr bp0 0)) rfl rfl (Light.quiet (opMove rfl rfl)) ?_
        refine ARL.q0 (v := (.rptr [(.int .i64 p1.letters), (.int .i64 p1.states), (.int .i64 p1.start), (.list 4 (List.map TEdge.av p1.edges))])) rfl rfl (Light.quiet (opFieldAddrR rfl fieldA_33_0 rfl rfl)) ?_
        refine ARL.q0 (v := (.int .i64 p1.letters)) rfl rfl (Light.quiet (opLoadR rfl aggA_3 rfl rfl)) ?_
        refine ARL.q0 (v := (.int .i64 (spec_l1Max p1.letters 1))) rfl rfl ((qCall rfl rfl (by kernel_rfl) (spec_l1Max_ok p1.letters 1) rfl)) ?_
        refine ARL.yK (fs := [.row 1 wv (List.map (AV.int .i64) s.ranks), .cell b5 [wv, (.int .i64 s.owing)], .cell b4 [.nil, (.int .i64 0)], .snap S]) rfl rfl rfl (by repeat' (first | exact trivial | refine ⟨?_, ?_⟩ | exact .inl rfl | exact .inr (inF (r := .cell b5 [wv, (.int .i64 s.owing)]) (k := 1) rfl) | exact .inr (by simp))) (hCallSB hS [3, 0, 1, 2, 4] (F := [.row 1 wv (List.map (AV.int .i64) s.ranks), .cell b5 [wv, (.int .i64 s.owing)], .cell b4 [.nil, (.int .i64 0)], .snap S]) rfl rfl rfl (by kernel_rfl) (spec_l1Below_ok ha29) rfl rfl ?_); rintro _ _ G17 ⟨rfl, rfl⟩ hB hS; refine ⟨hB, ?_⟩
        have hS := hS.pick (L' := [.row 1 wv (List.map (AV.int .i64) s.ranks), .cell b5 [wv, (.int .i64 s.owing)], .cell b4 [.nil, (.int .i64 0)], .cell bp0 [(.list 1 (List.map (AV.int .u8) a29.2.b)), (.int .i64 a29.2.i), (.int .i64 a29.2.h)], .snap S]) [1, 2, 3, 0, 4] rfl rfl
        refine ARL.x rfl rfl rfl (hCallSR hS rfl rfl (by kernel_rfl) (spec_RankNext_own ha30) ⟨.same _, .aggL ⟨.row (k := 0) rfl, .same _, trivial⟩, .same _, trivial⟩ ranks_scal ?_); rintro v30 _ G18 ⟨rs, hrs, rfl⟩ hK hS; refine ⟨hK, ?_⟩
        refine ARL.q0 (v := v30) rfl rfl (Light.quiet (opAssign rfl rfl)) ?_
        refine ARL.done ?_
        have hS := hS.pick (L' := [.row 2 v30 (rs.map RRs.raw), .pool (rs.flatMap RRs.rows), .row 1 wv (List.map (AV.int .i64) s.ranks), .cell b5 [wv, (.int .i64 s.owing)], .cell b4 [.nil, (.int .i64 0)], .cell bp0 [(.list 1 (List.map (AV.int .u8) a29.2.b)), (.int .i64 a29.2.i), (.int .i64 a29.2.h)], .snap S]) [0, 1, 2, 3, 4, 5, 6] rfl rfl
        have hlen : rs.length = a30.length := by rw [← hrs, List.length_map]
        refine AWP.seqR rfl ?_
        refine ASL.q (v := v30) rfl rfl (Light.quiet (opMove rfl rfl)) ?_
        refine ASL.q (v := (.int .i64 (a30.length : Int))) rfl rfl (Quiet.cast (Light.quiet (kLen hS (j := 0) rfl rfl rfl rfl lenT_44 rfl)) (by rw [hlen])) ?_
        refine ASL.q (v := (.bool (decide ((a30.length : Int) > 0)))) rfl rfl (Light.quiet (opInt rfl rfl rfl rfl)) ?_
        refine ASL.done ?_
        refine AWP.ifP hF rfl (fun hc hF => ?_) (fun hc hF => ?_)
        · skip
          refine AWP.lastR rfl ?_
          refine ASL.q (v := v30) rfl rfl (Light.quiet (opMove rfl rfl)) ?_
          refine ASL.q (v := (.ptr bp0 0)) rfl rfl (Light.quiet (opMove rfl rfl)) ?_
          refine ASL.q (v := v30) rfl rfl (Light.quiet (opMove rfl rfl)) ?_
          refine ASL.q (v := (.int .i64 (a30.length : Int))) rfl rfl (Quiet.cast (Light.quiet (kLen hS (j := 0) rfl rfl rfl rfl lenT_44 rfl)) (by rw [hlen])) ?_
          obtain ⟨a38, ha38, hF⟩ := bindE hF
          refine ASL.x rfl rfl (hCallS hS [5, 0, 1, 2, 3, 4, 6] (F := [.row 2 v30 (rs.map RRs.raw), .pool (rs.flatMap RRs.rows), .row 1 wv (List.map (AV.int .i64) s.ranks), .cell b5 [wv, (.int .i64 s.owing)], .cell b4 [.nil, (.int .i64 0)], .snap S]) rfl rfl rfl (by kernel_rfl) (spec_l1Below_ok ha38) rfl rfl ?_); rintro _ _ G20 ⟨rfl, rfl⟩ hS
          obtain ⟨a39, ha39, hF⟩ := bindE hF
          rw [← hrs] at ha39
          obtain ⟨y, hy, hya, hym⟩ := ix_map ha39
          obtain rfl := hya
          refine ASL.q (v := (ptrTo v30 a38.1.toNat 2)) rfl rfl (Light.quiet (kIxOx (f := RRs.raw) hS (j := 1) rfl hy rfl rfl rfl elemA_44 sizeA_28)) ?_
          refine ASL.q (v := (.agg [y.w, (.int .i64 y.o)])) rfl rfl (Light.quiet (kLdA (f := RRs.raw) hS (j := 1) rfl hy rfl aggA_28 sizeA_28 rfl rfl)) ?_
          refine ASL.n rfl rfl (hPutA hS (j := 4) rfl rfl sizeA_28 rfl rfl rfl rfl (RRs.ones y) (nlt rfl) ?_); rintro G21 hS
          refine ASL.done ?_
          obtain ⟨la, lb, hsp⟩ := List.append_of_mem hym
          have hperm : (rs.flatMap RRs.rows).Perm (RRs.rows y ++ (la ++ lb).flatMap RRs.rows) := by rw [hsp]; exact mid_perm la lb y
          have hS := (((hS.pick (L' := [.pool (rs.flatMap RRs.rows), .cell b5 [y.w, (.int .i64 y.o)], .cell b4 [.nil, (.int .i64 0)], .cell bp0 [(.list 1 (List.map (AV.int .u8) a38.2.b)), (.int .i64 a38.2.i), (.int .i64 a38.2.h)], .snap S]) [2, 4, 5, 0, 6] rfl rfl).permPool hperm).ofPool).pick (L' := [.row 1 y.w (List.map (AV.int .i64) y.q), .cell b5 [y.w, (.int .i64 y.o)], .cell b4 [.nil, (.int .i64 0)], .cell bp0 [(.list 1 (List.map (AV.int .u8) a38.2.b)), (.int .i64 a38.2.i), (.int .i64 a38.2.h)], .snap S]) [0, 2, 3, 4, 5] rfl rfl
          refine QBlock.nrm ?_
          refine QThen.nrm ?_
          refine AWP.lastR rfl ?_
          refine ASL.q (v := (.int .i64 x7)) rfl rfl (Light.quiet (opMove rfl rfl)) ?_
          refine ASL.q (v := (.int .i64 (W (x7 + 1)))) rfl rfl (Light.quiet (opInt rfl rfl rfl rfl)) ?_
          refine ASL.q (v := (.int .i64 (W (x7 + 1)))) rfl rfl (Light.quiet (opAssign rfl rfl)) ?_
          refine ASL.done ?_
          refine QThen.nrm ?_
          exact ⟨((RRs.t y), a38.2, (W (x7 + 1))), y.w, (someE hF).symm, ⟨rfl, rfl, rfl, rfl, rfl, rfl, trivial⟩, hS⟩
        · skip
          refine AWP.skip ?_
          have hS := hS.pick (L' := [.row 1 wv (List.map (AV.int .i64) s.ranks), .cell b5 [wv, (.int .i64 s.owing)], .cell b4 [.nil, (.int .i64 0)], .cell bp0 [(.list 1 (List.map (AV.int .u8) a29.2.b)), (.int .i64 a29.2.i), (.int .i64 a29.2.h)], .snap S]) [2, 3, 4, 5, 6] rfl rfl
          refine QBlock.nrm ?_
          refine QThen.nrm ?_
          refine AWP.lastR rfl ?_
          refine ASL.q (v := (.int .i64 x7)) rfl rfl (Light.quiet (opMove rfl rfl)) ?_
          refine ASL.q (v := (.int .i64 (W (x7 + 1)))) rfl rfl (Light.quiet (opInt rfl rfl rfl rfl)) ?_
          refine ASL.q (v := (.int .i64 (W (x7 + 1)))) rfl rfl (Light.quiet (opAssign rfl rfl)) ?_
          refine ASL.done ?_
          refine QThen.nrm ?_
          exact ⟨(s, a29.2, (W (x7 + 1))), wv, (someE hF).symm, ⟨rfl, rfl, rfl, rfl, rfl, rfl, trivial⟩, hS⟩
      · skip
        refine AWP.exit ?_
        refine QThen.ext ?_
        refine QThen.ext ?_
        refine QBlock.hit ?_
        obtain rfl := (hx _ (someE hF).symm)
        refine QThen.nrm ?_
        exact ⟨wv, ⟨rfl, rfl, rfl, trivial⟩, hS⟩

set_option maxRecDepth 10000 in
theorem spec_DrawRankNext_ok {p0 : (List Int)} {r : (TAuto × TRankState × Int)} (hF : spec_DrawRankNext p0 = some r) : PC Try.prog 16 [(.list 1 (List.map (AV.int .u8) p0))] fun v => v = .tup [(TAuto.av r.1), (TRankState.av r.2.1), (.int .i64 r.2.2)] := by
  refine PC.enter Try.func16 rfl Try.ntmps16 (by simp) ?_
  have hS := Sep.void; unfold spec_DrawRankNext at hF
  refine AWP.seqR rfl ?_
  refine ASL.x rfl rfl (hNewZ hS [(.int .i64 0), (.int .i64 0), (.int .i64 0), (.list 4 (List.map TEdge.av []))] rfl zeroA_33 ⟨.inl rfl, .inl rfl, .inl rfl, .inr ⟨_, rfl, rfl⟩, trivial⟩ ?_); rintro b2 G1 hK hS
  refine ASL.x rfl rfl (hNewZ hS [(.list 1 (List.map (AV.int .i64) [])), (.int .i64 0)] rfl zeroA_28 ⟨.inr ⟨_, rfl, rfl⟩, .inl rfl, trivial⟩ ?_); rintro b3 G3 hK hS
  refine ASL.q (v := (.int .i64 0)) rfl rfl (Light.quiet (opAssign rfl rfl)) ?_
  refine ASL.done ?_
  refine AWP.seqR rfl ?_
  refine ASL.q (v := (.list 1 (List.map (AV.int .u8) p0))) rfl rfl (Light.quiet (opMove rfl rfl)) ?_
  obtain ⟨a9, ha9, hF⟩ := bindE hF
  refine ASL.x rfl rfl (hCallS hS [0, 1] (F := [.cell b3 [(.list 1 (List.map (AV.int .i64) [])), (.int .i64 0)], .cell b2 [(.int .i64 0), (.int .i64 0), (.int .i64 0), (.list 4 (List.map TEdge.av []))]]) rfl rfl rfl call_39 (spec_l1New_ok ha9) rfl rfl ?_); rintro _ _ G7 ⟨bq5, rfl, rfl⟩ hS
  refine ASL.q (v := (.ptr bq5 0)) rfl rfl (Light.quiet (opAssign rfl rfl)) ?_
  refine ASL.done ?_
  refine AWP.seqR rfl ?_
  refine ASL.q (v := (.ptr bq5 0)) rfl rfl (Light.quiet (opMove rfl rfl)) ?_
  obtain ⟨a11, ha11, hF⟩ := bindE hF
  refine ASL.x rfl rfl (hCallS hS [0, 1, 2] (F := [.cell b3 [(.list 1 (List.map (AV.int .i64) [])), (.int .i64 0)], .cell b2 [(.int .i64 0), (.int .i64 0), (.int .i64 0), (.list 4 (List.map TEdge.av []))]]) rfl rfl rfl call_40 (spec_l13DrawAuto_ok ha11) rfl rfl ?_); rintro _ _ G8 ⟨rfl, rfl⟩ hS
  refine ASL.x rfl rfl (hNewZ hS [(.int .i64 0), (.int .i64 0), (.int .i64 0), (.list 4 (List.map TEdge.av []))] rfl zeroA_33 ⟨.inl rfl, .inl rfl, .inl rfl, .inr ⟨_, rfl, rfl⟩, trivial⟩ ?_); rintro b6 G9 hK hS
  refine ASL.n rfl rfl (hPutA hS (j := 0) rfl rfl sizeA_33 rfl rfl rfl rfl rfl (nlt rfl) ?_); rintro G11 hS
  refine ASL.done ?_
  refine AWP.seqR rfl ?_
  refine ASL.q (v := (.ptr bq5 0)) rfl rfl (Light.quiet (opMove rfl rfl)) ?_
  refine ASL.q (v := (TAuto.av a11.1)) rfl rfl (Light.quiet (kAtA hS (j := 0) rfl rfl aggA_33 sizeA_33 rfl (nlt rfl) rfl)) ?_
  obtain ⟨a14, ha14, hF⟩ := bindE hF
  refine ASL.x rfl rfl (hCallS hS [1, 0, 2, 3] (F := [.cell b6 [(.int .i64 a11.1.letters), (.int .i64 a11.1.states), (.int .i64 a11.1.start), (.list 4 (List.map TEdge.av a11.1.edges))], .cell b3 [(.list 1 (List.map (AV.int .i64) [])), (.int .i64 0)], .cell b2 [(.int .i64 0), (.int .i64 0), (.int .i64 0), (.list 4 (List.map TEdge.av []))]]) rfl rfl rfl call_41 (spec_l13DrawState_ok ha14) rfl rfl ?_); rintro _ _ G14 ⟨w12, rfl, rfl⟩ hS
  refine ASL.x rfl rfl (hNewZ hS [(.list 1 (List.map (AV.int .i64) [])), (.int .i64 0)] rfl zeroA_28 ⟨.inr ⟨_, rfl, rfl⟩, .inl rfl, trivial⟩ ?_); rintro b7 G15 hK hS
  refine ASL.n rfl rfl (hPutA hS (j := 0) rfl rfl sizeA_28 rfl rfl rfl rfl (allC (hS.one (k := 1) rfl) (allC rfl rfl)) (nlt rfl) ?_); rintro G17 hS
  refine ASL.done ?_
  refine AWP.seqD [(0, false), (1, false), (2, false), (4, false), (3, true), (5, true), (6, false), (7, false), (8, true), (9, true), (10, false)] mixed (by kernel_rfl) rfl ?_
  refine ARL.q (v := (TAuto.av a11.1)) rfl rfl (hS.aliveC (k := 3) rfl) (Light.quiet (kAtA hS (j := 3) rfl rfl aggA_33 sizeA_33 rfl (nlt rfl) rfl)) ?_
  refine ARL.q (v := (.agg [w12, (.int .i64 a14.1.owing)])) rfl rfl (hS.aliveC (k := 0) rfl) (Light.quiet (kAtA hS (j := 0) rfl rfl aggA_28 sizeA_28 rfl (nlt rfl) rfl)) ?_
  refine ARL.q0 (v := (.ptr bq5 0)) rfl rfl (Light.quiet (opMove rfl rfl)) ?_
  refine ARL.q0 (v := (.ptr bq5 0)) rfl rfl (Light.quiet (opMove rfl rfl)) ?_
  obtain ⟨a18, ha18, hF⟩ := bindE hF
  refine ARL.yK (fs := [.cell b7 [w12, (.int .i64 a14.1.owing)], .row 1 w12 (List.map (AV.int .i64) a14.1.ranks), .cell b6 [(.int .i64 a11.1.letters), (.int .i64 a11.1.states), (.int .i64 a11.1.start), (.list 4 (List.map TEdge.av a11.1.edges))], .cell b3 [(.list 1 (List.map (AV.int .i64) [])), (.int .i64 0)], .cell b2 [(.int .i64 0), (.int .i64 0), (.int .i64 0), (.list 4 (List.map TEdge.av []))]]) rfl rfl rfl ⟨.inr (by simp), .inr (by simp), .inr (inF (r := .cell b7 [w12, (.int .i64 a14.1.owing)]) (k := 0) rfl), .inr (inF (r := .cell b6 [(.int .i64 a11.1.letters), (.int .i64 a11.1.states), (.int .i64 a11.1.start), (.list 4 (List.map TEdge.av a11.1.edges))]) (k := 2) rfl), trivial⟩ (hCallSB hS [2, 0, 1, 3, 4, 5] (F := [.cell b7 [w12, (.int .i64 a14.1.owing)], .row 1 w12 (List.map (AV.int .i64) a14.1.ranks), .cell b6 [(.int .i64 a11.1.letters), (.int .i64 a11.1.states), (.int .i64 a11.1.start), (.list 4 (List.map TEdge.av a11.1.edges))], .cell b3 [(.list 1 (List.map (AV.int .i64) [])), (.int .i64 0)], .cell b2 [(.int .i64 0), (.int .i64 0), (.int .i64 0), (.list 4 (List.map TEdge.av []))]]) rfl rfl rfl call_42 (spec_l1Below_ok ha18) rfl rfl ?_); rintro _ _ G18 ⟨rfl, rfl⟩ hB hS; refine ⟨hB, ?_⟩
  obtain ⟨a20, ha20, hF⟩ := bindE hF
  refine ARL.yK (fs := [.cell b7 [w12, (.int .i64 a14.1.owing)], .row 1 w12 (List.map (AV.int .i64) a14.1.ranks), .cell b6 [(.int .i64 a11.1.letters), (.int .i64 a11.1.states), (.int .i64 a11.1.start), (.list 4 (List.map TEdge.av a11.1.edges))], .cell b3 [(.list 1 (List.map (AV.int .i64) [])), (.int .i64 0)], .cell b2 [(.int .i64 0), (.int .i64 0), (.int .i64 0), (.list 4 (List.map TEdge.av []))]]) rfl rfl rfl ⟨.inr (by simp), .inr (by simp), .inr (inF (r := .cell b7 [w12, (.int .i64 a14.1.owing)]) (k := 0) rfl), .inr (inF (r := .cell b6 [(.int .i64 a11.1.letters), (.int .i64 a11.1.states), (.int .i64 a11.1.start), (.list 4 (List.map TEdge.av a11.1.edges))]) (k := 2) rfl), trivial⟩ (hCallSB hS [0, 1, 2, 3, 4, 5] (F := [.cell b7 [w12, (.int .i64 a14.1.owing)], .row 1 w12 (List.map (AV.int .i64) a14.1.ranks), .cell b6 [(.int .i64 a11.1.letters), (.int .i64 a11.1.states), (.int .i64 a11.1.start), (.list 4 (List.map TEdge.av a11.1.edges))], .cell b3 [(.list 1 (List.map (AV.int .i64) [])), (.int .i64 0)], .cell b2 [(.int .i64 0), (.int .i64 0), (.int .i64 0), (.list 4 (List.map TEdge.av []))]]) rfl rfl rfl call_42 (spec_l1Below_ok ha20) rfl rfl ?_); rintro _ _ G19 ⟨rfl, rfl⟩ hB hS; refine ⟨hB, ?_⟩
  refine ARL.q0 (v := (.int .i64 (quo .i64 a20.1 19))) rfl rfl (Light.quiet (opQuo rfl rfl rfl (by decide) rfl)) ?_
  refine ARL.q0 (v := (.int .i64 (W (a18.1 - ((quo .i64 a20.1 19)))))) rfl rfl (Light.quiet (opInt rfl rfl rfl rfl)) ?_
  refine ARL.nB rfl rfl rfl ⟨.inr (by simp), .inr (by simp), .inr (by simp), .inr (by simp), .inr (hS.ap (j := 1) (k := 5) rfl rfl rfl), .inl rfl, trivial⟩ (hPutAB hS (j := 5) rfl rfl sizeA_33 rfl rfl rfl rfl rfl (nlt rfl) ?_); rintro G20 hB hS; refine ⟨hB, ?_⟩
  refine ARL.n rfl rfl rfl rfl (hPutA hS (j := 4) rfl rfl sizeA_28 rfl rfl rfl rfl (allC (hS.one (k := 2) rfl) (allC rfl rfl)) (nlt rfl) ?_); rintro G21 hS
  refine ARL.q0 (v := (.int .i64 (W (a18.1 - ((quo .i64 a20.1 19)))))) rfl rfl (Light.quiet (opAssign rfl rfl)) ?_
  refine ARL.done ?_
  refine AWP.frz (L' := [.cell bq5 [(.list 1 (List.map (AV.int .u8) a20.2.b)), (.int .i64 a20.2.i), (.int .i64 a20.2.h)], .cell b7 [(.list 1 (List.map (AV.int .i64) a14.1.ranks)), (.int .i64 a14.1.owing)], .cell b6 [(.int .i64 a11.1.letters), (.int .i64 a11.1.states), (.int .i64 a11.1.start), (.list 4 (List.map TEdge.av a11.1.edges))], .cell b3 [(.list 1 (List.map (AV.int .i64) a14.1.ranks)), (.int .i64 a14.1.owing)], .cell b2 [(.int .i64 a11.1.letters), (.int .i64 a11.1.states), (.int .i64 a11.1.start), (.list 4 (List.map TEdge.av a11.1.edges))]]) hS (k := 2) rfl [(2, (.ptr b2 0)), (3, (.ptr b3 0)), (4, (.int .i64 (W (a18.1 - ((quo .i64 a20.1 19))))))] ⟨.inl rfl, .inl rfl, .inl rfl, trivial⟩ ⟨⟨_, rfl, ⟨.inl rfl, .inl rfl, .inl rfl, trivial⟩⟩, ⟨_, rfl, ⟨.inr ⟨rfl, rfl⟩, .inl rfl, trivial⟩⟩, ⟨_, rfl, ⟨.inl rfl, .inl rfl, .inl rfl, .inl rfl, trivial⟩⟩, ⟨_, rfl, ⟨.inr ⟨rfl, rfl⟩, .inl rfl, trivial⟩⟩, ⟨_, rfl, ⟨.inl rfl, .inl rfl, .inl rfl, .inl rfl, trivial⟩⟩, trivial⟩ (fun G22 hS => ?_)
  refine AWP.ret ?_
  obtain rfl := someE hF
  exact QRet.many (vs := [(TAuto.av a11.1), (TRankState.av a14.1), (.int .i64 (W (a18.1 - ((quo .i64 a20.1 19)))))]) ⟨resOne.at hS (k := 4) rfl rfl aggA_33 sizeA_33, resOne.at hS (k := 3) rfl rfl aggA_28 sizeA_28, rfl, trivial⟩ (by simp) rfl

set_option maxRecDepth 10000 in
theorem impl_inRange_ok (p0 : Int) (p1 : Int) (p2 : Int) : PC Try.prog 43 [(.int .i64 p0), (.int .i64 p1), (.int .i64 p2)] fun v => v = (.bool (impl_inRange p0 p1 p2)) := by
  generalize hF : impl_inRange p0 p1 p2 = r
  refine PC.enter Try.func43 rfl Try.ntmps43 (by simp) ?_
  have hS := Sep.void; unfold impl_inRange at hF
  refine AWP.seqR rfl ?_
  refine ASL.q (v := (.bool false)) rfl rfl (Light.quiet (opAssign rfl rfl)) ?_
  refine ASL.done ?_
  refine AWP.seqR rfl ?_
  refine ASL.q (v := (.int .i64 p0)) rfl rfl (Light.quiet (opMove rfl rfl)) ?_
  refine ASL.q (v := (.int .i64 p1)) rfl rfl (Light.quiet (opMove rfl rfl)) ?_
  refine ASL.q (v := (.bool (decide (p0 ≥ p1)))) rfl rfl (Light.quiet (opInt rfl rfl rfl rfl)) ?_
  obtain ⟨c10, hc10, hF⟩ := bndE hF
  refine ASL.q (v := (.bool c10)) rfl rfl ((Quiet.cast (Light.quiet (opMove rfl rfl)) (congrArg AV.bool hc10.symm))) ?_
  refine ASL.g (v := (.int .i64 p0)) (.bool c10) true rfl (wT _) rfl (fun hG => by have q0 := hG; subst q0; exact Light.quiet (opMove rfl rfl)) ?_
  refine ASL.g (v := (.int .i64 p2)) (.bool c10) true rfl (wT _) rfl (fun hG => by have q0 := hG; subst q0; exact Light.quiet (opMove rfl rfl)) ?_
  refine ASL.g (v := (.bool (decide (p0 ≤ p2)))) (.bool c10) true rfl (wT _) rfl (fun hG => by have q0 := hG; subst q0; exact Light.quiet (opInt rfl rfl rfl rfl)) ?_
  refine ASL.q (v := (.bool (c10 && (decide (p0 ≤ p2))))) rfl rfl (Light.quiet (opPick (b := c10) rfl rfl (by cases c10 <;> rfl))) ?_
  refine ASL.q (v := (.bool (c10 && (decide (p0 ≤ p2))))) rfl rfl (Light.quiet (opAssign rfl rfl)) ?_
  refine ASL.done ?_
  refine AWP.ret ?_
  obtain rfl := hF
  exact QRet.sole (v := (.bool (c10 && (decide (p0 ≤ p2))))) ⟨rfl, trivial⟩ rfl

set_option maxRecDepth 10000 in
theorem impl_isLetters_ok (p0 : Int) : PC Try.prog 78 [(.int .i64 p0)] fun v => v = (.bool (impl_isLetters p0)) := by
  generalize hF : impl_isLetters p0 = r
  refine PC.enter Try.func78 rfl Try.ntmps78 (by simp) ?_
  have hS := Sep.void; unfold impl_isLetters at hF
  refine AWP.seqR rfl ?_
  refine ASL.q (v := (.bool false)) rfl rfl (Light.quiet (opAssign rfl rfl)) ?_
  refine ASL.done ?_
  refine AWP.seqR rfl ?_
  refine ASL.q (v := (.int .i64 p0)) rfl rfl (Light.quiet (opMove rfl rfl)) ?_
  refine ASL.q (v := (.bool (impl_inRange p0 1 8))) rfl rfl ((qCall rfl rfl call_43 (impl_inRange_ok p0 1 8) rfl)) ?_
  refine ASL.q (v := (.bool (impl_inRange p0 1 8))) rfl rfl (Light.quiet (opAssign rfl rfl)) ?_
  refine ASL.done ?_
  refine AWP.ret ?_
  obtain rfl := hF
  exact QRet.sole (v := (.bool (impl_inRange p0 1 8))) ⟨rfl, trivial⟩ rfl

set_option maxRecDepth 10000 in
theorem impl_SetOk_ok (p0 : Int) : PC Try.prog 48 [(.int .i64 p0)] fun v => v = (.bool (impl_SetOk p0)) := by
  generalize hF : impl_SetOk p0 = r
  refine PC.enter Try.func48 rfl Try.ntmps48 (by simp) ?_
  have hS := Sep.void; unfold impl_SetOk at hF
  refine AWP.seqR rfl ?_
  refine ASL.q (v := (.bool false)) rfl rfl (Light.quiet (opAssign rfl rfl)) ?_
  refine ASL.done ?_
  refine AWP.seqR rfl ?_
  refine ASL.q (v := (.int .i64 p0)) rfl rfl (Light.quiet (opMove rfl rfl)) ?_
  refine ASL.q (v := (.bool (impl_inRange p0 0 2147483647))) rfl rfl ((qCall rfl rfl call_43 (impl_inRange_ok p0 0 2147483647) rfl)) ?_
  refine ASL.q (v := (.bool (impl_inRange p0 0 2147483647))) rfl rfl (Light.quiet (opAssign rfl rfl)) ?_
  refine ASL.done ?_
  refine AWP.ret ?_
  obtain rfl := hF
  exact QRet.sole (v := (.bool (impl_inRange p0 0 2147483647))) ⟨rfl, trivial⟩ rfl

set_option maxRecDepth 10000 in
theorem impl_only_ok (p0 : Int) : PC Try.prog 49 [(.int .i64 p0)] fun v => v = (.int .i64 (impl_only p0)) := by
  generalize hF : impl_only p0 = r
  refine PC.enter Try.func49 rfl Try.ntmps49 (by simp) ?_
  have hS := Sep.void; unfold impl_only at hF
  refine AWP.seqR rfl ?_
  refine ASL.q (v := (.int .i64 0)) rfl rfl (Light.quiet (opAssign rfl rfl)) ?_
  refine ASL.done ?_
  refine AWP.seqR rfl ?_
  refine ASL.q (v := (.int .i64 p0)) rfl rfl (Light.quiet (opMove rfl rfl)) ?_
  refine ASL.q (v := (.int .u64 (IntKind.u64.wrap p0))) rfl rfl (Light.quiet (opConv rfl rfl und_3 und_88 rfl)) ?_
  refine ASL.q (v := (.int .i64 (shl .i64 1 ((IntKind.u64.wrap p0))))) rfl rfl (Light.quiet (opShl rfl rfl rfl (wrapU_nn rfl _) rfl)) ?_
  refine ASL.q (v := (.int .i64 (shl .i64 1 ((IntKind.u64.wrap p0))))) rfl rfl (Light.quiet (opAssign rfl rfl)) ?_
  refine ASL.done ?_
  refine AWP.ret ?_
  obtain rfl := hF
  exact QRet.sole (v := (.int .i64 (shl .i64 1 ((IntKind.u64.wrap p0))))) ⟨rfl, trivial⟩ rfl

set_option maxRecDepth 10000 in
theorem impl_headOk_ok (p0 : Int) (p1 : Int) (p2 : Int) : PC Try.prog 72 [(.int .i64 p0), (.int .i64 p1), (.int .i64 p2)] fun v => v = (.bool (impl_headOk p0 p1 p2)) := by
  generalize hF : impl_headOk p0 p1 p2 = r
  refine PC.enter Try.func72 rfl Try.ntmps72 (by simp) ?_
  have hS := Sep.void; unfold impl_headOk at hF
  refine AWP.seqR rfl ?_
  refine ASL.q (v := (.bool false)) rfl rfl (Light.quiet (opAssign rfl rfl)) ?_
  refine ASL.done ?_
  refine AWP.seqR rfl ?_
  refine ASL.q (v := (.int .i64 p0)) rfl rfl (Light.quiet (opMove rfl rfl)) ?_
  refine ASL.q (v := (.bool (impl_isLetters p0))) rfl rfl ((qCall rfl rfl call_78 (impl_isLetters_ok p0) rfl)) ?_
  obtain ⟨c9, hc9, hF⟩ := bndE hF
  refine ASL.q (v := (.bool c9)) rfl rfl ((Quiet.cast (Light.quiet (opMove rfl rfl)) (congrArg AV.bool hc9.symm))) ?_
  refine ASL.g (v := (.int .i64 p1)) (.bool c9) true rfl (wT _) rfl (fun hG => by have q0 := hG; subst q0; exact Light.quiet (opMove rfl rfl)) ?_
  refine ASL.g (v := (.bool (impl_inRange p1 0 31))) (.bool c9) true rfl (wT _) rfl (fun hG => by have q0 := hG; subst q0; exact (qCall rfl rfl call_43 (impl_inRange_ok p1 0 31) rfl)) ?_
  refine ASL.q (v := (.bool (c9 && (impl_inRange p1 0 31)))) rfl rfl (Light.quiet (opPick (b := c9) rfl rfl (by cases c9 <;> rfl))) ?_
  obtain ⟨c13, hc13, hF⟩ := bndE hF
  refine ASL.q (v := (.bool c13)) rfl rfl ((Quiet.cast (Light.quiet (opMove rfl rfl)) (congrArg AV.bool hc13.symm))) ?_
  refine ASL.g (v := (.int .i64 p2)) (.bool c13) true rfl (wT _) rfl (fun hG => by have q0 := hG; subst q0; exact Light.quiet (opMove rfl rfl)) ?_
  refine ASL.g (v := (.bool (impl_SetOk p2))) (.bool c13) true rfl (wT _) rfl (fun hG => by have q0 := hG; subst q0; exact (qCall rfl rfl call_48 (impl_SetOk_ok p2) rfl)) ?_
  refine ASL.q (v := (.bool (c13 && (impl_SetOk p2)))) rfl rfl (Light.quiet (opPick (b := c13) rfl rfl (by cases c13 <;> rfl))) ?_
  obtain ⟨c17, hc17, hF⟩ := bndE hF
  refine ASL.q (v := (.bool c17)) rfl rfl ((Quiet.cast (Light.quiet (opMove rfl rfl)) (congrArg AV.bool hc17.symm))) ?_
  refine ASL.g (v := (.int .i64 p2)) (.bool c17) true rfl (wT _) rfl (fun hG => by have q0 := hG; subst q0; exact Light.quiet (opMove rfl rfl)) ?_
  refine ASL.g (v := (.int .i64 p1)) (.bool c17) true rfl (wT _) rfl (fun hG => by have q0 := hG; subst q0; exact Light.quiet (opMove rfl rfl)) ?_
  refine ASL.g (v := (.int .i64 (impl_only p1))) (.bool c17) true rfl (wT _) rfl (fun hG => by have q0 := hG; subst q0; exact (qCall rfl rfl call_49 (impl_only_ok p1) rfl)) ?_
  refine ASL.g (v := (.bool (decide (p2 < ((impl_only p1)))))) (.bool c17) true rfl (wT _) rfl (fun hG => by have q0 := hG; subst q0; exact Light.quiet (opInt rfl rfl rfl rfl)) ?_
  refine ASL.q (v := (.bool (c17 && (decide (p2 < ((impl_only p1))))))) rfl rfl (Light.quiet (opPick (b := c17) rfl rfl (by cases c17 <;> rfl))) ?_
  refine ASL.q (v := (.bool (c17 && (decide (p2 < ((impl_only p1))))))) rfl rfl (Light.quiet (opAssign rfl rfl)) ?_
  refine ASL.done ?_
  refine AWP.ret ?_
  obtain rfl := hF
  exact QRet.sole (v := (.bool (c17 && (decide (p2 < ((impl_only p1))))))) ⟨rfl, trivial⟩ rfl

set_option maxRecDepth 10000 in
theorem cmp_isNaN_int_ok (p0 : Int) : PC Try.prog 81 [(.int .i64 p0)] fun v => v = (.bool (cmp_isNaN_int p0)) := by
  generalize hF : cmp_isNaN_int p0 = r
  refine PC.enter Try.func81 rfl Try.ntmps81 (by simp) ?_
  have hS := Sep.void; unfold cmp_isNaN_int at hF
  refine AWP.seqR rfl ?_
  refine ASL.q (v := (.bool false)) rfl rfl (Light.quiet (opAssign rfl rfl)) ?_
  refine ASL.done ?_
  refine AWP.seqR rfl ?_
  refine ASL.q (v := (.int .i64 p0)) rfl rfl (Light.quiet (opMove rfl rfl)) ?_
  refine ASL.q (v := (.int .i64 p0)) rfl rfl (Light.quiet (opMove rfl rfl)) ?_
  refine ASL.q (v := (.bool (decide (p0 ≠ p0)))) rfl rfl (Light.quiet (opInt rfl rfl rfl rfl)) ?_
  refine ASL.q (v := (.bool (decide (p0 ≠ p0)))) rfl rfl (Light.quiet (opAssign rfl rfl)) ?_
  refine ASL.done ?_
  refine AWP.ret ?_
  obtain rfl := hF
  exact QRet.sole (v := (.bool (decide (p0 ≠ p0)))) ⟨rfl, trivial⟩ rfl

set_option maxRecDepth 10000 in
theorem cmp_Compare_int_ok (p0 : Int) (p1 : Int) : PC Try.prog 80 [(.int .i64 p0), (.int .i64 p1)] fun v => v = (.int .i64 (cmp_Compare_int p0 p1)) := by
  generalize hF : cmp_Compare_int p0 p1 = r
  refine PC.enter Try.func80 rfl Try.ntmps80 (by simp) ?_
  have hS := Sep.void; unfold cmp_Compare_int at hF
  refine AWP.seqR rfl ?_
  refine ASL.q (v := (.int .i64 0)) rfl rfl (Light.quiet (opAssign rfl rfl)) ?_
  refine ASL.done ?_
  refine AWP.seqR rfl ?_
  refine ASL.q (v := (.int .i64 p0)) rfl rfl (Light.quiet (opMove rfl rfl)) ?_
  refine ASL.q (v := (.bool (cmp_isNaN_int p0))) rfl rfl ((qCall rfl rfl call_81 (cmp_isNaN_int_ok p0) rfl)) ?_
  refine ASL.q (v := (.bool (cmp_isNaN_int p0))) rfl rfl (Light.quiet (opAssign rfl rfl)) ?_
  refine ASL.done ?_
  refine AWP.seqR rfl ?_
  refine ASL.q (v := (.int .i64 p1)) rfl rfl (Light.quiet (opMove rfl rfl)) ?_
  refine ASL.q (v := (.bool (cmp_isNaN_int p1))) rfl rfl ((qCall rfl rfl call_81 (cmp_isNaN_int_ok p1) rfl)) ?_
  refine ASL.q (v := (.bool (cmp_isNaN_int p1))) rfl rfl (Light.quiet (opAssign rfl rfl)) ?_
  refine ASL.done ?_
  refine AWP.seq ?_
  refine AWP.seqR rfl ?_
  refine ASL.q (v := (.bool (cmp_isNaN_int p0))) rfl rfl (Light.quiet (opMove rfl rfl)) ?_
  refine ASL.done ?_
  refine AWP.ifB hF rfl (fun hc1 hF => ?_) (fun hc1 hF => ?_)
  · skip
    refine AWP.seq ?_
    refine AWP.seqR rfl ?_
    refine ASL.q (v := (.bool (cmp_isNaN_int p1))) rfl rfl (Light.quiet (opMove rfl rfl)) ?_
    refine ASL.done ?_
    refine AWP.ifB hF rfl (fun hc2 hF => ?_) (fun hc2 hF => ?_)
    · skip
      refine AWP.seqR rfl ?_
      refine ASL.q (v := (.int .i64 0)) rfl rfl (Light.quiet (opAssign rfl rfl)) ?_
      refine ASL.done ?_
      refine AWP.ret ?_
      refine QThen.rt ?_
      refine QThen.rt ?_
      obtain rfl := hF
      exact QRet.sole (v := (.int .i64 0)) ⟨rfl, trivial⟩ rfl
    · skip
      refine AWP.skip ?_
      refine QThen.nrm ?_
      refine AWP.seqR rfl ?_
      refine ASL.q (v := (.int .i64 (-1))) rfl rfl (Light.quiet (opAssign rfl rfl)) ?_
      refine ASL.done ?_
      refine AWP.ret ?_
      refine QThen.rt ?_
      obtain rfl := hF
      exact QRet.sole (v := (.int .i64 (-1))) ⟨rfl, trivial⟩ rfl
  · skip
    refine AWP.skip ?_
    refine QThen.nrm ?_
    refine AWP.seq ?_
    refine AWP.seqR rfl ?_
    refine ASL.q (v := (.bool (cmp_isNaN_int p1))) rfl rfl (Light.quiet (opMove rfl rfl)) ?_
    refine ASL.done ?_
    refine AWP.ifB hF rfl (fun hc3 hF => ?_) (fun hc3 hF => ?_)
    · skip
      refine AWP.seqR rfl ?_
      refine ASL.q (v := (.int .i64 1)) rfl rfl (Light.quiet (opAssign rfl rfl)) ?_
      refine ASL.done ?_
      refine AWP.ret ?_
      refine QThen.rt ?_
      obtain rfl := hF
      exact QRet.sole (v := (.int .i64 1)) ⟨rfl, trivial⟩ rfl
    · skip
      refine AWP.skip ?_
      refine QThen.nrm ?_
      refine AWP.seq ?_
      refine AWP.seqR rfl ?_
      refine ASL.q (v := (.int .i64 p0)) rfl rfl (Light.quiet (opMove rfl rfl)) ?_
      refine ASL.q (v := (.int .i64 p1)) rfl rfl (Light.quiet (opMove rfl rfl)) ?_
      refine ASL.q (v := (.bool (decide (p0 < p1)))) rfl rfl (Light.quiet (opInt rfl rfl rfl rfl)) ?_
      refine ASL.done ?_
      refine AWP.ifP hF rfl (fun hc4 hF => ?_) (fun hc4 hF => ?_)
      · skip
        refine AWP.seqR rfl ?_
        refine ASL.q (v := (.int .i64 (-1))) rfl rfl (Light.quiet (opAssign rfl rfl)) ?_
        refine ASL.done ?_
        refine AWP.ret ?_
        refine QThen.rt ?_
        obtain rfl := hF
        exact QRet.sole (v := (.int .i64 (-1))) ⟨rfl, trivial⟩ rfl
      · skip
        refine AWP.skip ?_
        refine QThen.nrm ?_
        refine AWP.seq ?_
        refine AWP.seqR rfl ?_
        refine ASL.q (v := (.int .i64 p0)) rfl rfl (Light.quiet (opMove rfl rfl)) ?_
        refine ASL.q (v := (.int .i64 p1)) rfl rfl (Light.quiet (opMove rfl rfl)) ?_
        refine ASL.q (v := (.bool (decide (p0 > p1)))) rfl rfl (Light.quiet (opInt rfl rfl rfl rfl)) ?_
        refine ASL.done ?_
        refine AWP.ifP hF rfl (fun hc5 hF => ?_) (fun hc5 hF => ?_)
        · skip
          refine AWP.seqR rfl ?_
          refine ASL.q (v := (.int .i64 1)) rfl rfl (Light.quiet (opAssign rfl rfl)) ?_
          refine ASL.done ?_
          refine AWP.ret ?_
          refine QThen.rt ?_
          obtain rfl := hF
          exact QRet.sole (v := (.int .i64 1)) ⟨rfl, trivial⟩ rfl
        · skip
          refine AWP.skip ?_
          refine QThen.nrm ?_
          refine AWP.seqR rfl ?_
          refine ASL.q (v := (.int .i64 0)) rfl rfl (Light.quiet (opAssign rfl rfl)) ?_
          refine ASL.done ?_
          refine AWP.ret ?_
          obtain rfl := hF
          exact QRet.sole (v := (.int .i64 0)) ⟨rfl, trivial⟩ rfl

set_option maxRecDepth 10000 in
theorem cmp_Or_int_ok {p0 : (List Int)} {r : Int} (hF : cmp_Or_int p0 = some r) : PC Try.prog 79 [(.list 1 (List.map (AV.int .i64) p0))] fun v => v = (.int .i64 r) := by
  refine PC.enter Try.func79 rfl Try.ntmps79 (by simp) ?_
  have hS := Sep.void; unfold cmp_Or_int at hF
  refine AWP.seqR rfl ?_
  refine ASL.q (v := (.int .i64 0)) rfl rfl (Light.quiet (opAssign rfl rfl)) ?_
  refine ASL.done ?_
  refine AWP.seqR rfl ?_
  refine ASL.q (v := (.int .i64 0)) rfl rfl (Light.quiet (opAssign rfl rfl)) ?_
  refine ASL.done ?_
  refine AWP.seqM (fun e H => E.Told e [(3, (.int .i64 0))] ∧ E.Sep H [] ∧ cmp_Or_int.k0 = some r) ?_ ?_
  · rintro e0 G1 ⟨hT, hS, hF⟩; refine AWP.only _ hT ?_; unfold cmp_Or_int.k0 at hF
    refine AWP.seqR rfl ?_
    refine ASL.q (v := (.int .i64 0)) rfl rfl (Light.quiet (opMove rfl rfl)) ?_
    refine ASL.q (v := (.int .i64 0)) rfl rfl (Light.quiet (opAssign rfl rfl)) ?_
    refine ASL.done ?_
    refine AWP.ret ?_
    obtain rfl := someE hF
    exact QRet.sole (v := (.int .i64 0)) ⟨rfl, trivial⟩ rfl
  · skip
    refine AWP.seqR rfl ?_
    refine ASL.q (v := (.list 1 (List.map (AV.int .i64) p0))) rfl rfl (Light.quiet (opMove rfl rfl)) ?_
    refine ASL.q (v := (.int .i64 (p0.length : Int))) rfl rfl (Light.quiet (opLenMap (f := (AV.int .i64)) rfl rfl rfl lenT_26 rfl)) ?_
    refine ASL.q (v := (.int .i64 0)) rfl rfl (Light.quiet (opMove rfl rfl)) ?_
    refine ASL.done ?_
    refine AWP.block ?_
    obtain ⟨o5, hL4, hR6⟩ := bindE hF
    refine AWP.loopF (ω := Unit) hL4 (fun s w => [(3, (.int .i64 0)), (6, (.list 1 (List.map (AV.int .i64) p0))), (7, (.int .i64 (p0.length : Int))), (8, (.int .i64 s))]) (fun s w => []) () ⟨rfl, rfl, rfl, rfl, trivial⟩ (hS.pick [] rfl rfl) ?_
    rintro x8_l0 _ G7 hS x2 hF hx3
    try dsimp only at hS ⊢
    have hF : cmp_Or_int.b0 p0 x8_l0 = some x2 := hF; unfold cmp_Or_int.b0 at hF
    refine AWP.seqR rfl ?_
    refine ASL.q (v := (.bool (decide (x8_l0 < ((p0.length : Int)))))) rfl rfl (Light.quiet (opInt rfl rfl rfl rfl)) ?_
    refine ASL.done ?_
    refine AWP.seq ?_
    refine AWP.ifP hF rfl (fun hc8 hF => ?_) (fun hc8 hF => ?_)
    · skip
      refine AWP.skip ?_
      refine QThen.nrm ?_
      refine AWP.seq ?_
      refine AWP.block ?_
      refine AWP.seqR rfl ?_
      obtain ⟨a10, ha10, hF⟩ := bindE hF
      refine ASL.q (v := (.rptr [(.int .i64 a10)])) rfl rfl (Light.quiet (kIx (f := (AV.int .i64)) ha10 rfl rfl rfl elemA_26 sizeA_3 rfl)) ?_
      refine ASL.q (v := (.int .i64 a10)) rfl rfl (Light.quiet (opLoadR rfl aggA_3 rfl rfl)) ?_
      refine ASL.q (v := (.int .i64 a10)) rfl rfl (Light.quiet (opAssign rfl rfl)) ?_
      refine ASL.done ?_
      refine AWP.seqR rfl ?_
      refine ASL.q (v := (.int .i64 a10)) rfl rfl (Light.quiet (opMove rfl rfl)) ?_
      refine ASL.q (v := (.int .i64 0)) rfl rfl (Light.quiet (opMove rfl rfl)) ?_
      refine ASL.q (v := (.bool (decide (a10 ≠ 0)))) rfl rfl (Light.quiet (opInt rfl rfl rfl rfl)) ?_
      refine ASL.done ?_
      refine AWP.ifP hF rfl (fun hc9 hF => ?_) (fun hc9 hF => ?_)
      · skip
        refine AWP.seqR rfl ?_
        refine ASL.q (v := (.int .i64 a10)) rfl rfl (Light.quiet (opMove rfl rfl)) ?_
        refine ASL.q (v := (.int .i64 a10)) rfl rfl (Light.quiet (opAssign rfl rfl)) ?_
        refine ASL.done ?_
        refine AWP.ret ?_
        refine QBlock.ret ?_
        refine QThen.rt ?_
        refine QThen.rt ?_
        refine QBlock.ret ?_
        refine QThen.rt ?_
        obtain rfl := (hx3 _ (someE hF).symm)
        have hF := hR6
        have hF := sumR hF
        obtain rfl := someE hF
        exact QRet.sole (v := (.int .i64 a10)) ⟨rfl, trivial⟩ rfl
      · skip
        refine AWP.skip ?_
        refine QBlock.nrm ?_
        refine QThen.nrm ?_
        refine AWP.lastR rfl ?_
        refine ASL.q (v := (.int .i64 (W (x8_l0 + 1)))) rfl rfl (Light.quiet (opInt rfl rfl rfl rfl)) ?_
        refine ASL.q (v := (.int .i64 (W (x8_l0 + 1)))) rfl rfl (Light.quiet (opMove rfl rfl)) ?_
        refine ASL.done ?_
        refine QThen.nrm ?_
        exact ⟨(W (x8_l0 + 1)), (), (someE hF).symm, ⟨rfl, rfl, rfl, rfl, trivial⟩, (hS.pick [] rfl rfl)⟩
    · skip
      refine AWP.exit ?_
      refine QThen.ext ?_
      refine QThen.ext ?_
      refine QBlock.hit ?_
      obtain rfl := (hx3 _ (someE hF).symm)
      have hF := hR6
      have hF := sumL hF
      refine QThen.nrm ?_
      exact ⟨⟨rfl, trivial⟩, (hS.pick [] rfl rfl), hF⟩

set_option maxRecDepth 10000 in
theorem impl_compareEdges_ok {p0 : TEdge} {p1 : TEdge} {r : Int} (hF : impl_compareEdges p0 p1 = some r) : PC Try.prog 73 [(TEdge.av p0), (TEdge.av p1)] fun v => v = (.int .i64 r) := by
  refine PC.enter Try.func73 rfl Try.ntmps73 (by simp) ?_
  have hS := Sep.void; unfold impl_compareEdges at hF
  refine AWP.seqR rfl ?_
  refine ASL.q (v := (.rptr [(.int .i64 p0.from_), (.int .i64 p0.letter), (.int .i64 p0.to_), (.bool p0.good)])) rfl rfl ((qBoxI (v := (TEdge.av p0)) rfl rfl rfl rfl)) ?_
  refine ASL.q (v := (.rptr [(.int .i64 p1.from_), (.int .i64 p1.letter), (.int .i64 p1.to_), (.bool p1.good)])) rfl rfl ((qBoxI (v := (TEdge.av p1)) rfl rfl rfl rfl)) ?_
  refine ASL.q (v := (.int .i64 0)) rfl rfl (Light.quiet (opAssign rfl rfl)) ?_
  refine ASL.done ?_
  refine AWP.seqD [(0, false), (1, false), (2, false), (3, false), (4, false), (5, false), (6, false), (7, false), (8, false), (9, false), (10, false), (11, false), (12, false), (13, false), (14, false), (15, false), (16, false), (17, false)] mixed (by kernel_rfl) rfl ?_
  refine ARL.q0 (v := (.rptr [(.int .i64 p0.from_), (.int .i64 p0.letter), (.int .i64 p0.to_), (.bool p0.good)])) rfl rfl (Light.quiet (opFieldAddrR rfl fieldA_73_0 rfl rfl)) ?_
  refine ARL.q0 (v := (.int .i64 p0.from_)) rfl rfl (Light.quiet (opLoadR rfl aggA_3 rfl rfl)) ?_
  refine ARL.q0 (v := (.rptr [(.int .i64 p1.from_), (.int .i64 p1.letter), (.int .i64 p1.to_), (.bool p1.good)])) rfl rfl (Light.quiet (opFieldAddrR rfl fieldA_73_0 rfl rfl)) ?_
  refine ARL.q0 (v := (.int .i64 p1.from_)) rfl rfl (Light.quiet (opLoadR rfl aggA_3 rfl rfl)) ?_
  refine ARL.q0 (v := (.int .i64 (cmp_Compare_int p0.from_ p1.from_))) rfl rfl ((qCall rfl rfl call_80 (cmp_Compare_int_ok p0.from_ p1.from_) rfl)) ?_
  refine ARL.q0 (v := (.rptr [(.int .i64 p0.letter), (.int .i64 p0.to_), (.bool p0.good)])) rfl rfl (Light.quiet (opFieldAddrR rfl fieldA_73_1 rfl rfl)) ?_
  refine ARL.q0 (v := (.int .i64 p0.letter)) rfl rfl (Light.quiet (opLoadR rfl aggA_3 rfl rfl)) ?_
  refine ARL.q0 (v := (.rptr [(.int .i64 p1.letter), (.int .i64 p1.to_), (.bool p1.good)])) rfl rfl (Light.quiet (opFieldAddrR rfl fieldA_73_1 rfl rfl)) ?_
  refine ARL.q0 (v := (.int .i64 p1.letter)) rfl rfl (Light.quiet (opLoadR rfl aggA_3 rfl rfl)) ?_
  refine ARL.q0 (v := (.int .i64 (cmp_Compare_int p0.letter p1.letter))) rfl rfl ((qCall rfl rfl call_80 (cmp_Compare_int_ok p0.letter p1.letter) rfl)) ?_
  refine ARL.q0 (v := (.rptr [(.int .i64 p0.to_), (.bool p0.good)])) rfl rfl (Light.quiet (opFieldAddrR rfl fieldA_73_2 rfl rfl)) ?_
  refine ARL.q0 (v := (.int .i64 p0.to_)) rfl rfl (Light.quiet (opLoadR rfl aggA_3 rfl rfl)) ?_
  refine ARL.q0 (v := (.rptr [(.int .i64 p1.to_), (.bool p1.good)])) rfl rfl (Light.quiet (opFieldAddrR rfl fieldA_73_2 rfl rfl)) ?_
  refine ARL.q0 (v := (.int .i64 p1.to_)) rfl rfl (Light.quiet (opLoadR rfl aggA_3 rfl rfl)) ?_
  refine ARL.q0 (v := (.int .i64 (cmp_Compare_int p0.to_ p1.to_))) rfl rfl ((qCall rfl rfl call_80 (cmp_Compare_int_ok p0.to_ p1.to_) rfl)) ?_
  refine ARL.q0 (v := (.list 1 (List.map (AV.int .i64) [(cmp_Compare_int p0.from_ p1.from_), (cmp_Compare_int p0.letter p1.letter), (cmp_Compare_int p0.to_ p1.to_)]))) rfl rfl ((qLit (xs := [(.int .i64 (cmp_Compare_int p0.from_ p1.from_)), (.int .i64 (cmp_Compare_int p0.letter p1.letter)), (.int .i64 (cmp_Compare_int p0.to_ p1.to_))]) rfl elemA_26 sizeA_3 zeroA_3 rfl rfl rfl rfl (by simp [cells]) (nlt rfl))) ?_
  obtain ⟨a21, ha21, hF⟩ := bindE hF
  refine ARL.q0 (v := (.int .i64 a21)) rfl rfl ((qCall rfl rfl call_79 (cmp_Or_int_ok ha21) rfl)) ?_
  refine ARL.q0 (v := (.int .i64 a21)) rfl rfl (Light.quiet (opAssign rfl rfl)) ?_
  refine ARL.done ?_
  refine AWP.ret ?_
  obtain rfl := someE hF
  exact QRet.sole (v := (.int .i64 a21)) ⟨rfl, trivial⟩ rfl

set_option maxRecDepth 10000 in
theorem impl_AutoOk_ok {p0 : TAuto} {r : Bool} (hF : impl_AutoOk p0 = some r) : PC Try.prog 56 [(TAuto.av p0)] fun v => v = (.bool r) := by
  refine PC.enter Try.func56 rfl Try.ntmps56 (by simp) ?_
  have hS := Sep.void; unfold impl_AutoOk at hF
  refine AWP.seqR rfl ?_
  refine ASL.q (v := (.rptr [(.int .i64 p0.letters), (.int .i64 p0.states), (.int .i64 p0.start), (.list 4 (List.map TEdge.av p0.edges))])) rfl rfl ((qBoxI (v := (TAuto.av p0)) rfl rfl rfl rfl)) ?_
  refine ASL.q (v := (.bool false)) rfl rfl (Light.quiet (opAssign rfl rfl)) ?_
  refine ASL.done ?_
  refine AWP.seq ?_
  refine AWP.seqR rfl ?_
  refine ASL.q (v := (.rptr [(.int .i64 p0.letters), (.int .i64 p0.states), (.int .i64 p0.start), (.list 4 (List.map TEdge.av p0.edges))])) rfl rfl (Light.quiet (opFieldAddrR rfl fieldA_33_0 rfl rfl)) ?_
  refine ASL.q (v := (.int .i64 p0.letters)) rfl rfl (Light.quiet (opLoadR rfl aggA_3 rfl rfl)) ?_
  refine ASL.q (v := (.rptr [(.int .i64 p0.states), (.int .i64 p0.start), (.list 4 (List.map TEdge.av p0.edges))])) rfl rfl (Light.quiet (opFieldAddrR rfl fieldA_33_1 rfl rfl)) ?_
  refine ASL.q (v := (.int .i64 p0.states)) rfl rfl (Light.quiet (opLoadR rfl aggA_3 rfl rfl)) ?_
  refine ASL.q (v := (.rptr [(.int .i64 p0.start), (.list 4 (List.map TEdge.av p0.edges))])) rfl rfl (Light.quiet (opFieldAddrR rfl fieldA_33_2 rfl rfl)) ?_
  refine ASL.q (v := (.int .i64 p0.start)) rfl rfl (Light.quiet (opLoadR rfl aggA_3 rfl rfl)) ?_
  refine ASL.q (v := (.bool (impl_headOk p0.letters p0.states p0.start))) rfl rfl ((qCall rfl rfl call_72 (impl_headOk_ok p0.letters p0.states p0.start) rfl)) ?_
  refine ASL.q (v := (.bool (!(impl_headOk p0.letters p0.states p0.start)))) rfl rfl (Light.quiet (opNot rfl rfl)) ?_
  obtain ⟨c13, hc13, hF⟩ := bndE hF
  refine ASL.q (v := (.bool c13)) rfl rfl ((Quiet.cast (Light.quiet (opMove rfl rfl)) (congrArg AV.bool hc13.symm))) ?_
  refine ASL.g (v := (.rptr [(.list 4 (List.map TEdge.av p0.edges))])) (.bool c13) false rfl (wF _) rfl (fun hG => by have q0 := gN hG; subst q0; exact Light.quiet (opFieldAddrR rfl fieldA_33_3 rfl rfl)) ?_
  refine ASL.g (v := (.list 4 (List.map TEdge.av p0.edges))) (.bool c13) false rfl (wF _) rfl (fun hG => by have q0 := gN hG; subst q0; exact Light.quiet (opLoadR rfl aggA_31 rfl rfl)) ?_
  refine ASL.g (v := (.int .i64 (p0.edges.length : Int))) (.bool c13) false rfl (wF _) rfl (fun hG => by have q0 := gN hG; subst q0; exact Light.quiet (opLenMap (f := TEdge.av) rfl rfl rfl lenT_31 rfl)) ?_
  refine ASL.g (v := (.bool (decide (((p0.edges.length : Int)) > 2000)))) (.bool c13) false rfl (wF _) rfl (fun hG => by have q0 := gN hG; subst q0; exact Light.quiet (opInt rfl rfl rfl rfl)) ?_
  refine ASL.q (v := (.bool (c13 || (decide (((p0.edges.length : Int)) > 2000))))) rfl rfl (Light.quiet (opPick (b := c13) rfl rfl (by cases c13 <;> rfl))) ?_
  refine ASL.done ?_
  refine AWP.ifB hF rfl (fun hc1 hF => ?_) (fun hc1 hF => ?_)
  · skip
    refine AWP.seqR rfl ?_
    refine ASL.q (v := (.bool false)) rfl rfl (Light.quiet (opAssign rfl rfl)) ?_
    refine ASL.done ?_
    refine AWP.ret ?_
    refine QThen.rt ?_
    obtain rfl := someE hF
    exact QRet.sole (v := (.bool false)) ⟨rfl, trivial⟩ rfl
  · skip
    refine AWP.skip ?_
    refine QThen.nrm ?_
    refine AWP.seqM (fun e H => E.Told e [] ∧ E.Sep H [] ∧ impl_AutoOk.k0 = some r) ?_ ?_
    · rintro e0 G2 ⟨hT, hS, hF⟩; refine AWP.only _ hT ?_; unfold impl_AutoOk.k0 at hF
      refine AWP.seqR rfl ?_
      refine ASL.q (v := (.bool true)) rfl rfl (Light.quiet (opAssign rfl rfl)) ?_
      refine ASL.done ?_
      refine AWP.ret ?_
      obtain rfl := someE hF
      exact QRet.sole (v := (.bool true)) ⟨rfl, trivial⟩ rfl
    · skip
      refine AWP.seqR rfl ?_
      refine ASL.q (v := (.rptr [(.list 4 (List.map TEdge.av p0.edges))])) rfl rfl (Light.quiet (opFieldAddrR rfl fieldA_33_3 rfl rfl)) ?_
      refine ASL.q (v := (.list 4 (List.map TEdge.av p0.edges))) rfl rfl (Light.quiet (opLoadR rfl aggA_31 rfl rfl)) ?_
      refine ASL.q (v := (.int .i64 (p0.edges.length : Int))) rfl rfl (Light.quiet (opLenMap (f := TEdge.av) rfl rfl rfl lenT_31 rfl)) ?_
      refine ASL.q (v := (.int .i64 0)) rfl rfl (Light.quiet (opMove rfl rfl)) ?_
      refine ASL.done ?_
      refine AWP.block ?_
      obtain ⟨o6, hL5, hR7⟩ := bindE hF
      refine AWP.loopF (ω := Unit) hL5 (fun s w => [(1, (.rptr [(.int .i64 p0.letters), (.int .i64 p0.states), (.int .i64 p0.start), (.list 4 (List.map TEdge.av p0.edges))])), (20, (.list 4 (List.map TEdge.av p0.edges))), (21, (.int .i64 (p0.edges.length : Int))), (22, (.int .i64 s))]) (fun s w => []) () ⟨rfl, rfl, rfl, rfl, trivial⟩ (hS.pick [] rfl rfl) ?_
      rintro x22_l0 _ G8 hS x3 hF hx4
      try dsimp only at hS ⊢
      have hF : impl_AutoOk.b0 p0 x22_l0 = some x3 := hF; unfold impl_AutoOk.b0 at hF
      refine AWP.seqR rfl ?_
      refine ASL.q (v := (.bool (decide (x22_l0 < ((p0.edges.length : Int)))))) rfl rfl (Light.quiet (opInt rfl rfl rfl rfl)) ?_
      refine ASL.done ?_
      refine AWP.seq ?_
      refine AWP.ifP hF rfl (fun hc9 hF => ?_) (fun hc9 hF => ?_)
      · skip
        refine AWP.skip ?_
        refine QThen.nrm ?_
        refine AWP.seq ?_
        refine AWP.block ?_
        refine AWP.seqR rfl ?_
        refine ASL.q (v := (.int .i64 x22_l0)) rfl rfl (Light.quiet (opMove rfl rfl)) ?_
        obtain ⟨a25, ha25, hF⟩ := bindE hF
        refine ASL.q (v := (.rptr [(.int .i64 a25.from_), (.int .i64 a25.letter), (.int .i64 a25.to_), (.bool a25.good)])) rfl rfl (Light.quiet (kIx (f := TEdge.av) ha25 rfl rfl rfl elemA_31 sizeA_73 rfl)) ?_
        refine ASL.q (v := (TEdge.av a25)) rfl rfl (Light.quiet (opLoadRA rfl aggA_73 sizeA_73 rfl (nlt rfl) rfl)) ?_
        refine ASL.x rfl rfl (hNewZ hS [(.int .i64 0), (.int .i64 0), (.int .i64 0), (.bool false)] rfl zeroA_73 ⟨.inl rfl, .inl rfl, .inl rfl, .inl rfl, trivial⟩ ?_); rintro b4 G10 hK hS
        refine ASL.q (v := (.int .i64 x22_l0)) rfl rfl (Light.quiet (opAssign rfl rfl)) ?_
        refine ASL.n rfl rfl (hPutA hS (j := 0) rfl rfl sizeA_73 rfl rfl rfl rfl rfl (nlt rfl) ?_); rintro G12 hS
        refine ASL.done ?_
        refine AWP.seq ?_
        refine AWP.seqR rfl ?_
        refine ASL.q (v := (.ptr b4 0)) rfl rfl (Light.quiet (opFieldAddr rfl fieldA_73_0 rfl rfl)) ?_
        refine ASL.q (v := (.int .i64 a25.from_)) rfl rfl (Light.quiet (kAt hS (j := 0) rfl rfl aggA_3 rfl rfl)) ?_
        refine ASL.q (v := (.rptr [(.int .i64 p0.states), (.int .i64 p0.start), (.list 4 (List.map TEdge.av p0.edges))])) rfl rfl (Light.quiet (opFieldAddrR rfl fieldA_33_1 rfl rfl)) ?_
        refine ASL.q (v := (.int .i64 p0.states)) rfl rfl (Light.quiet (opLoadR rfl aggA_3 rfl rfl)) ?_
        refine ASL.q (v := (.int .i64 (W (p0.states - 1)))) rfl rfl (Light.quiet (opInt rfl rfl rfl rfl)) ?_
        refine ASL.q (v := (.bool (impl_inRange a25.from_ 0 ((W (p0.states - 1)))))) rfl rfl ((qCall rfl rfl call_43 (impl_inRange_ok a25.from_ 0 ((W (p0.states - 1)))) rfl)) ?_
        refine ASL.q (v := (.bool (!(impl_inRange a25.from_ 0 ((W (p0.states - 1))))))) rfl rfl (Light.quiet (opNot rfl rfl)) ?_
        obtain ⟨c34, hc34, hF⟩ := bndE hF
        refine ASL.q (v := (.bool c34)) rfl rfl ((Quiet.cast (Light.quiet (opMove rfl rfl)) (congrArg AV.bool hc34.symm))) ?_
        refine ASL.g (v := (.ptr b4 2)) (.bool c34) false rfl (wF _) rfl (fun hG => by have q0 := gN hG; subst q0; exact Light.quiet (opFieldAddr rfl fieldA_73_2 rfl rfl)) ?_
        refine ASL.g (v := (.int .i64 a25.to_)) (.bool c34) false rfl (wF _) rfl (fun hG => by have q0 := gN hG; subst q0; exact Light.quiet (kAt hS (j := 0) rfl rfl aggA_3 rfl rfl)) ?_
        refine ASL.g (v := (.rptr [(.int .i64 p0.states), (.int .i64 p0.start), (.list 4 (List.map TEdge.av p0.edges))])) (.bool c34) false rfl (wF _) rfl (fun hG => by have q0 := gN hG; subst q0; exact Light.quiet (opFieldAddrR rfl fieldA_33_1 rfl rfl)) ?_
        refine ASL.g (v := (.int .i64 p0.states)) (.bool c34) false rfl (wF _) rfl (fun hG => by have q0 := gN hG; subst q0; exact Light.quiet (opLoadR rfl aggA_3 rfl rfl)) ?_
        refine ASL.g (v := (.int .i64 (W (p0.states - 1)))) (.bool c34) false rfl (wF _) rfl (fun hG => by have q0 := gN hG; subst q0; exact Light.quiet (opInt rfl rfl rfl rfl)) ?_
        refine ASL.g (v := (.bool (impl_inRange a25.to_ 0 ((W (p0.states - 1)))))) (.bool c34) false rfl (wF _) rfl (fun hG => by have q0 := gN hG; subst q0; exact (qCall rfl rfl call_43 (impl_inRange_ok a25.to_ 0 ((W (p0.states - 1)))) rfl)) ?_
        refine ASL.g (v := (.bool (!(impl_inRange a25.to_ 0 ((W (p0.states - 1))))))) (.bool c34) false rfl (wF _) rfl (fun hG => by have q0 := gN hG; subst q0; exact Light.quiet (opNot rfl rfl)) ?_
        refine ASL.q (v := (.bool (c34 || (!(impl_inRange a25.to_ 0 ((W (p0.states - 1)))))))) rfl rfl (Light.quiet (opPick (b := c34) rfl rfl (by cases c34 <;> rfl))) ?_
        obtain ⟨c43, hc43, hF⟩ := bndE hF
        refine ASL.q (v := (.bool c43)) rfl rfl ((Quiet.cast (Light.quiet (opMove rfl rfl)) (congrArg AV.bool hc43.symm))) ?_
        refine ASL.g (v := (.ptr b4 1)) (.bool c43) false rfl (wF _) rfl (fun hG => by have q0 := gN hG; subst q0; exact Light.quiet (opFieldAddr rfl fieldA_73_1 rfl rfl)) ?_
        refine ASL.g (v := (.int .i64 a25.letter)) (.bool c43) false rfl (wF _) rfl (fun hG => by have q0 := gN hG; subst q0; exact Light.quiet (kAt hS (j := 0) rfl rfl aggA_3 rfl rfl)) ?_
        refine ASL.g (v := (.rptr [(.int .i64 p0.letters), (.int .i64 p0.states), (.int .i64 p0.start), (.list 4 (List.map TEdge.av p0.edges))])) (.bool c43) false rfl (wF _) rfl (fun hG => by have q0 := gN hG; subst q0; exact Light.quiet (opFieldAddrR rfl fieldA_33_0 rfl rfl)) ?_
        refine ASL.g (v := (.int .i64 p0.letters)) (.bool c43) false rfl (wF _) rfl (fun hG => by have q0 := gN hG; subst q0; exact Light.quiet (opLoadR rfl aggA_3 rfl rfl)) ?_
        refine ASL.g (v := (.int .i64 (W (p0.letters - 1)))) (.bool c43) false rfl (wF _) rfl (fun hG => by have q0 := gN hG; subst q0; exact Light.quiet (opInt rfl rfl rfl rfl)) ?_
        refine ASL.g (v := (.bool (impl_inRange a25.letter 0 ((W (p0.letters - 1)))))) (.bool c43) false rfl (wF _) rfl (fun hG => by have q0 := gN hG; subst q0; exact (qCall rfl rfl call_43 (impl_inRange_ok a25.letter 0 ((W (p0.letters - 1)))) rfl)) ?_
        refine ASL.g (v := (.bool (!(impl_inRange a25.letter 0 ((W (p0.letters - 1))))))) (.bool c43) false rfl (wF _) rfl (fun hG => by have q0 := gN hG; subst q0; exact Light.quiet (opNot rfl rfl)) ?_
        refine ASL.q (v := (.bool (c43 || (!(impl_inRange a25.letter 0 ((W (p0.letters - 1)))))))) rfl rfl (Light.quiet (opPick (b := c43) rfl rfl (by cases c43 <;> rfl))) ?_
        refine ASL.done ?_
        refine AWP.ifB hF rfl (fun hc13 hF => ?_) (fun hc13 hF => ?_)
        · skip
          refine AWP.seqR rfl ?_
          refine ASL.q (v := (.bool false)) rfl rfl (Light.quiet (opAssign rfl rfl)) ?_
          refine ASL.done ?_
          refine AWP.ret ?_
          refine QThen.rt ?_
          refine QBlock.ret ?_
          refine QThen.rt ?_
          refine QThen.rt ?_
          refine QBlock.ret ?_
          refine QThen.rt ?_
          obtain rfl := (hx4 _ (someE hF).symm)
          have hF := hR7
          have hF := sumR hF
          obtain rfl := someE hF
          exact QRet.sole (v := (.bool false)) ⟨rfl, trivial⟩ rfl
        · skip
          refine AWP.skip ?_
          refine QThen.nrm ?_
          refine AWP.seqD [(0, false), (1, false), (2, false), (3, false), (4, false), (5, false), (6, false), (7, false), (8, false), (9, false), (10, false), (11, false), (12, false)] mixed (by kernel_rfl) rfl ?_
          refine ARL.q0 (v := (.int .i64 x22_l0)) rfl rfl (Light.quiet (opMove rfl rfl)) ?_
          refine ARL.q0 (v := (.bool (decide (x22_l0 > 0)))) rfl rfl (Light.quiet (opInt rfl rfl rfl rfl)) ?_
          obtain ⟨c54, hc54, hF⟩ := bndE hF
          refine ARL.q0 (v := (.bool c54)) rfl rfl ((Quiet.cast (Light.quiet (opMove rfl rfl)) (congrArg AV.bool hc54.symm))) ?_
          refine ARL.g (v := (.rptr [(.list 4 (List.map TEdge.av p0.edges))])) (.bool c54) true rfl (wT _) rfl noneAlive (fun hG => by have q0 := hG; subst q0; exact Light.quiet (opFieldAddrR rfl fieldA_33_3 rfl rfl)) ?_
          refine ARL.g (v := (.list 4 (List.map TEdge.av p0.edges))) (.bool c54) true rfl (wT _) rfl noneAlive (fun hG => by have q0 := hG; subst q0; exact Light.quiet (opLoadR rfl aggA_31 rfl rfl)) ?_
          refine ARL.g (v := (.int .i64 x22_l0)) (.bool c54) true rfl (wT _) rfl noneAlive (fun hG => by have q0 := hG; subst q0; exact Light.quiet (opMove rfl rfl)) ?_
          refine ARL.g (v := (.int .i64 (W (x22_l0 - 1)))) (.bool c54) true rfl (wT _) rfl noneAlive (fun hG => by have q0 := hG; subst q0; exact Light.quiet (opInt rfl rfl rfl rfl)) ?_
          obtain ⟨a59, ha59, hF⟩ := bindE hF
          refine ARL.g (v := (.rptr [(.int .i64 a59.from_), (.int .i64 a59.letter), (.int .i64 a59.to_), (.bool a59.good)])) (.bool c54) true rfl (wT _) rfl noneAlive (fun hG => by have q0 := hG; subst q0; exact Light.quiet (kIx (f := TEdge.av) (whenE ha59) rfl rfl rfl elemA_31 sizeA_73 rfl)) ?_
          refine ARL.g (v := (TEdge.av a59)) (.bool c54) true rfl (wT _) rfl noneAlive (fun hG => by have q0 := hG; subst q0; exact Light.quiet (opLoadRA rfl aggA_73 sizeA_73 rfl (nlt rfl) rfl)) ?_
          refine ARL.g (v := (TEdge.av a25)) (.bool c54) true rfl (wT _) rfl (hS.aliveC (k := 0) rfl) (fun hG => by have q0 := hG; subst q0; exact Light.quiet (kAtA hS (j := 0) rfl rfl aggA_73 sizeA_73 rfl (nlt rfl) rfl)) ?_
          obtain ⟨a62, ha62, hF⟩ := bindE hF
          refine ARL.g (v := (.int .i64 a62)) (.bool c54) true rfl (wT _) rfl noneAlive (fun hG => by have q0 := hG; subst q0; exact (qCall rfl rfl call_73 (impl_compareEdges_ok (whenE ha62)) rfl)) ?_
          refine ARL.g (v := (.bool (decide (a62 ≥ 0)))) (.bool c54) true rfl (wT _) rfl noneAlive (fun hG => by have q0 := hG; subst q0; exact Light.quiet (opInt rfl rfl rfl rfl)) ?_
          refine ARL.q0 (v := (.bool (c54 && (decide (a62 ≥ 0))))) rfl rfl (Light.quiet (opPick (b := c54) rfl rfl (by cases c54 <;> rfl))) ?_
          refine ARL.done ?_
          refine AWP.ifB hF rfl (fun hc14 hF => ?_) (fun hc14 hF => ?_)
          · skip
            refine AWP.seqR rfl ?_
            refine ASL.q (v := (.bool false)) rfl rfl (Light.quiet (opAssign rfl rfl)) ?_
            refine ASL.done ?_
            refine AWP.ret ?_
            refine QBlock.ret ?_
            refine QThen.rt ?_
            refine QThen.rt ?_
            refine QBlock.ret ?_
            refine QThen.rt ?_
            obtain rfl := (hx4 _ (someE hF).symm)
            have hF := hR7
            have hF := sumR hF
            obtain rfl := someE hF
            exact QRet.sole (v := (.bool false)) ⟨rfl, trivial⟩ rfl
          · skip
            refine AWP.skip ?_
            refine QBlock.nrm ?_
            refine QThen.nrm ?_
            refine AWP.lastR rfl ?_
            refine ASL.q (v := (.int .i64 (W (x22_l0 + 1)))) rfl rfl (Light.quiet (opInt rfl rfl rfl rfl)) ?_
            refine ASL.q (v := (.int .i64 (W (x22_l0 + 1)))) rfl rfl (Light.quiet (opMove rfl rfl)) ?_
            refine ASL.done ?_
            refine QThen.nrm ?_
            exact ⟨(W (x22_l0 + 1)), (), (someE hF).symm, ⟨rfl, rfl, rfl, rfl, trivial⟩, (hS.pick [] rfl rfl)⟩
      · skip
        refine AWP.exit ?_
        refine QThen.ext ?_
        refine QThen.ext ?_
        refine QBlock.hit ?_
        obtain rfl := (hx4 _ (someE hF).symm)
        have hF := hR7
        have hF := sumL hF
        refine QThen.nrm ?_
        exact ⟨trivial, (hS.pick [] rfl rfl), hF⟩

set_option maxRecDepth 10000 in
theorem impl_isRanked_ok {p0 : TAuto} {r : Bool} (hF : impl_isRanked p0 = some r) : PC Try.prog 32 [(TAuto.av p0)] fun v => v = (.bool r) := by
  refine PC.enter Try.func32 rfl Try.ntmps32 (by simp) ?_
  have hS := Sep.void; unfold impl_isRanked at hF
  refine AWP.seqR rfl ?_
  refine ASL.q (v := (.rptr [(.int .i64 p0.letters), (.int .i64 p0.states), (.int .i64 p0.start), (.list 4 (List.map TEdge.av p0.edges))])) rfl rfl ((qBoxI (v := (TAuto.av p0)) rfl rfl rfl rfl)) ?_
  refine ASL.q (v := (.bool false)) rfl rfl (Light.quiet (opAssign rfl rfl)) ?_
  refine ASL.done ?_
  refine AWP.seqR rfl ?_
  refine ASL.q (v := (TAuto.av p0)) rfl rfl (Light.quiet (opLoadRA rfl aggA_33 sizeA_33 rfl (nlt rfl) rfl)) ?_
  obtain ⟨a4, ha4, hF⟩ := bindE hF
  refine ASL.q (v := (.bool a4)) rfl rfl ((qCall rfl rfl call_56 (impl_AutoOk_ok ha4) rfl)) ?_
  refine ASL.q (v := (.bool a4)) rfl rfl (Light.quiet (opMove rfl rfl)) ?_
  refine ASL.g (v := (.rptr [(.int .i64 p0.states), (.int .i64 p0.start), (.list 4 (List.map TEdge.av p0.edges))])) (.bool a4) true rfl (wT _) rfl (fun hG => by have q0 := hG; subst q0; exact Light.quiet (opFieldAddrR rfl fieldA_33_1 rfl rfl)) ?_
  refine ASL.g (v := (.int .i64 p0.states)) (.bool a4) true rfl (wT _) rfl (fun hG => by have q0 := hG; subst q0; exact Light.quiet (opLoadR rfl aggA_3 rfl rfl)) ?_
  refine ASL.g (v := (.bool (decide (p0.states ≤ 2)))) (.bool a4) true rfl (wT _) rfl (fun hG => by have q0 := hG; subst q0; exact Light.quiet (opInt rfl rfl rfl rfl)) ?_
  refine ASL.q (v := (.bool (a4 && (decide (p0.states ≤ 2))))) rfl rfl (Light.quiet (opPick (b := a4) rfl rfl (by cases a4 <;> rfl))) ?_
  refine ASL.q (v := (.bool (a4 && (decide (p0.states ≤ 2))))) rfl rfl (Light.quiet (opAssign rfl rfl)) ?_
  refine ASL.done ?_
  refine AWP.ret ?_
  obtain rfl := someE hF
  exact QRet.sole (v := (.bool (a4 && (decide (p0.states ≤ 2))))) ⟨rfl, trivial⟩ rfl

set_option maxRecDepth 10000 in
theorem impl_has_ok (p0 : Int) (p1 : Int) : PC Try.prog 50 [(.int .i64 p0), (.int .i64 p1)] fun v => v = (.bool (impl_has p0 p1)) := by
  generalize hF : impl_has p0 p1 = r
  refine PC.enter Try.func50 rfl Try.ntmps50 (by simp) ?_
  have hS := Sep.void; unfold impl_has at hF
  refine AWP.seqR rfl ?_
  refine ASL.q (v := (.bool false)) rfl rfl (Light.quiet (opAssign rfl rfl)) ?_
  refine ASL.done ?_
  refine AWP.seqR rfl ?_
  refine ASL.q (v := (.int .i64 p0)) rfl rfl (Light.quiet (opMove rfl rfl)) ?_
  refine ASL.q (v := (.int .i64 p1)) rfl rfl (Light.quiet (opMove rfl rfl)) ?_
  refine ASL.q (v := (.int .u64 (IntKind.u64.wrap p1))) rfl rfl (Light.quiet (opConv rfl rfl und_3 und_88 rfl)) ?_
  refine ASL.q (v := (.int .i64 (shr .i64 p0 ((IntKind.u64.wrap p1))))) rfl rfl (Light.quiet (opShr rfl rfl rfl (wrapU_nn rfl _) rfl)) ?_
  refine ASL.q (v := (.int .i64 (bAnd .i64 ((shr .i64 p0 ((IntKind.u64.wrap p1)))) 1))) rfl rfl (Light.quiet (opInt rfl rfl rfl rfl)) ?_
  refine ASL.q (v := (.bool (decide (((bAnd .i64 ((shr .i64 p0 ((IntKind.u64.wrap p1)))) 1)) = 1)))) rfl rfl (Light.quiet (opInt rfl rfl rfl rfl)) ?_
  refine ASL.q (v := (.bool (decide (((bAnd .i64 ((shr .i64 p0 ((IntKind.u64.wrap p1)))) 1)) = 1)))) rfl rfl (Light.quiet (opAssign rfl rfl)) ?_
  refine ASL.done ?_
  refine AWP.ret ?_
  obtain rfl := hF
  exact QRet.sole (v := (.bool (decide (((bAnd .i64 ((shr .i64 p0 ((IntKind.u64.wrap p1)))) 1)) = 1)))) ⟨rfl, trivial⟩ rfl

set_option maxRecDepth 10000 in
theorem impl_RankOk_ok {p0 : TAuto} {p1 : TRankState} {r : Bool} (hF : impl_RankOk p0 p1 = some r) : PC Try.prog 20 [(TAuto.av p0), (TRankState.av p1)] fun v => v = (.bool r) := by
  refine PC.enter Try.func20 rfl Try.ntmps20 (by simp) ?_
  have hS := Sep.void; unfold impl_RankOk at hF
  refine AWP.seqR rfl ?_
  refine ASL.q (v := (.rptr [(.int .i64 p0.letters), (.int .i64 p0.states), (.int .i64 p0.start), (.list 4 (List.map TEdge.av p0.edges))])) rfl rfl ((qBoxI (v := (TAuto.av p0)) rfl rfl rfl rfl)) ?_
  refine ASL.q (v := (.rptr [(.list 1 (List.map (AV.int .i64) p1.ranks)), (.int .i64 p1.owing)])) rfl rfl ((qBoxI (v := (TRankState.av p1)) rfl rfl rfl rfl)) ?_
  refine ASL.q (v := (.bool false)) rfl rfl (Light.quiet (opAssign rfl rfl)) ?_
  refine ASL.done ?_
  refine AWP.seq ?_
  refine AWP.seqD [(0, false), (1, false), (2, false), (3, false), (4, false), (5, false), (6, false), (7, false), (8, false), (9, false), (10, false), (11, false), (12, false), (13, false), (14, false), (15, false), (16, false), (17, false), (18, false), (19, false), (20, false), (21, false), (22, false), (23, false), (24, false)] mixed (by kernel_rfl) rfl ?_
  refine ARL.q0 (v := (TAuto.av p0)) rfl rfl (Light.quiet (opLoadRA rfl aggA_33 sizeA_33 rfl (nlt rfl) rfl)) ?_
  obtain ⟨a8, ha8, hF⟩ := bindE hF
  refine ARL.q0 (v := (.bool a8)) rfl rfl ((qCall rfl rfl call_32 (impl_isRanked_ok ha8) rfl)) ?_
  refine ARL.q0 (v := (.bool (!a8))) rfl rfl (Light.quiet (opNot rfl rfl)) ?_
  obtain ⟨c10, hc10, hF⟩ := bndE hF
  refine ARL.q0 (v := (.bool c10)) rfl rfl ((Quiet.cast (Light.quiet (opMove rfl rfl)) (congrArg AV.bool hc10.symm))) ?_
  refine ARL.g (v := (.rptr [(.list 1 (List.map (AV.int .i64) p1.ranks)), (.int .i64 p1.owing)])) (.bool c10) false rfl (wF _) rfl noneAlive (fun hG => by have q0 := gN hG; subst q0; exact Light.quiet (opFieldAddrR rfl fieldA_28_0 rfl rfl)) ?_
  refine ARL.g (v := (.list 1 (List.map (AV.int .i64) p1.ranks))) (.bool c10) false rfl (wF _) rfl noneAlive (fun hG => by have q0 := gN hG; subst q0; exact Light.quiet (opLoadR rfl aggA_26 rfl rfl)) ?_
  refine ARL.g (v := (.int .i64 (p1.ranks.length : Int))) (.bool c10) false rfl (wF _) rfl noneAlive (fun hG => by have q0 := gN hG; subst q0; exact Light.quiet (opLenMap (f := (AV.int .i64)) rfl rfl rfl lenT_26 rfl)) ?_
  refine ARL.g (v := (.rptr [(.int .i64 p0.states), (.int .i64 p0.start), (.list 4 (List.map TEdge.av p0.edges))])) (.bool c10) false rfl (wF _) rfl noneAlive (fun hG => by have q0 := gN hG; subst q0; exact Light.quiet (opFieldAddrR rfl fieldA_33_1 rfl rfl)) ?_
  refine ARL.g (v := (.int .i64 p0.states)) (.bool c10) false rfl (wF _) rfl noneAlive (fun hG => by have q0 := gN hG; subst q0; exact Light.quiet (opLoadR rfl aggA_3 rfl rfl)) ?_
  refine ARL.g (v := (.bool (decide (((p1.ranks.length : Int)) ≠ p0.states)))) (.bool c10) false rfl (wF _) rfl noneAlive (fun hG => by have q0 := gN hG; subst q0; exact Light.quiet (opInt rfl rfl rfl rfl)) ?_
  refine ARL.q0 (v := (.bool (c10 || (decide (((p1.ranks.length : Int)) ≠ p0.states))))) rfl rfl (Light.quiet (opPick (b := c10) rfl rfl (by cases c10 <;> rfl))) ?_
  obtain ⟨c18, hc18, hF⟩ := bndE hF
  refine ARL.q0 (v := (.bool c18)) rfl rfl ((Quiet.cast (Light.quiet (opMove rfl rfl)) (congrArg AV.bool hc18.symm))) ?_
  refine ARL.g (v := (.rptr [(.int .i64 p1.owing)])) (.bool c18) false rfl (wF _) rfl noneAlive (fun hG => by have q0 := gN hG; subst q0; exact Light.quiet (opFieldAddrR rfl fieldA_28_1 rfl rfl)) ?_
  refine ARL.g (v := (.int .i64 p1.owing)) (.bool c18) false rfl (wF _) rfl noneAlive (fun hG => by have q0 := gN hG; subst q0; exact Light.quiet (opLoadR rfl aggA_3 rfl rfl)) ?_
  refine ARL.g (v := (.bool (impl_SetOk p1.owing))) (.bool c18) false rfl (wF _) rfl noneAlive (fun hG => by have q0 := gN hG; subst q0; exact (qCall rfl rfl call_48 (impl_SetOk_ok p1.owing) rfl)) ?_
  refine ARL.g (v := (.bool (!(impl_SetOk p1.owing)))) (.bool c18) false rfl (wF _) rfl noneAlive (fun hG => by have q0 := gN hG; subst q0; exact Light.quiet (opNot rfl rfl)) ?_
  refine ARL.q0 (v := (.bool (c18 || (!(impl_SetOk p1.owing))))) rfl rfl (Light.quiet (opPick (b := c18) rfl rfl (by cases c18 <;> rfl))) ?_
  obtain ⟨c24, hc24, hF⟩ := bndE hF
  refine ARL.q0 (v := (.bool c24)) rfl rfl ((Quiet.cast (Light.quiet (opMove rfl rfl)) (congrArg AV.bool hc24.symm))) ?_
  refine ARL.g (v := (.rptr [(.int .i64 p1.owing)])) (.bool c24) false rfl (wF _) rfl noneAlive (fun hG => by have q0 := gN hG; subst q0; exact Light.quiet (opFieldAddrR rfl fieldA_28_1 rfl rfl)) ?_
  refine ARL.g (v := (.int .i64 p1.owing)) (.bool c24) false rfl (wF _) rfl noneAlive (fun hG => by have q0 := gN hG; subst q0; exact Light.quiet (opLoadR rfl aggA_3 rfl rfl)) ?_
  refine ARL.g (v := (.rptr [(.int .i64 p0.states), (.int .i64 p0.start), (.list 4 (List.map TEdge.av p0.edges))])) (.bool c24) false rfl (wF _) rfl noneAlive (fun hG => by have q0 := gN hG; subst q0; exact Light.quiet (opFieldAddrR rfl fieldA_33_1 rfl rfl)) ?_
  refine ARL.g (v := (.int .i64 p0.states)) (.bool c24) false rfl (wF _) rfl noneAlive (fun hG => by have q0 := gN hG; subst q0; exact Light.quiet (opLoadR rfl aggA_3 rfl rfl)) ?_
  refine ARL.g (v := (.int .i64 (impl_only p0.states))) (.bool c24) false rfl (wF _) rfl noneAlive (fun hG => by have q0 := gN hG; subst q0; exact (qCall rfl rfl call_49 (impl_only_ok p0.states) rfl)) ?_
  refine ARL.g (v := (.bool (decide (p1.owing ≥ ((impl_only p0.states)))))) (.bool c24) false rfl (wF _) rfl noneAlive (fun hG => by have q0 := gN hG; subst q0; exact Light.quiet (opInt rfl rfl rfl rfl)) ?_
  refine ARL.q0 (v := (.bool (c24 || (decide (p1.owing ≥ ((impl_only p0.states))))))) rfl rfl (Light.quiet (opPick (b := c24) rfl rfl (by cases c24 <;> rfl))) ?_
  refine ARL.done ?_
  refine AWP.ifB hF rfl (fun hc1 hF => ?_) (fun hc1 hF => ?_)
  · skip
    refine AWP.seqR rfl ?_
    refine ASL.q (v := (.bool false)) rfl rfl (Light.quiet (opAssign rfl rfl)) ?_
    refine ASL.done ?_
    refine AWP.ret ?_
    refine QThen.rt ?_
    obtain rfl := someE hF
    exact QRet.sole (v := (.bool false)) ⟨rfl, trivial⟩ rfl
  · skip
    refine AWP.skip ?_
    refine QThen.nrm ?_
    refine AWP.seqM (fun e H => E.Told e [] ∧ E.Sep H [] ∧ impl_RankOk.k0 = some r) ?_ ?_
    · rintro e0 G2 ⟨hT, hS, hF⟩; refine AWP.only _ hT ?_; unfold impl_RankOk.k0 at hF
      refine AWP.seqR rfl ?_
      refine ASL.q (v := (.bool true)) rfl rfl (Light.quiet (opAssign rfl rfl)) ?_
      refine ASL.done ?_
      refine AWP.ret ?_
      obtain rfl := someE hF
      exact QRet.sole (v := (.bool true)) ⟨rfl, trivial⟩ rfl
    · skip
      refine AWP.seqR rfl ?_
      refine ASL.q (v := (.rptr [(.list 1 (List.map (AV.int .i64) p1.ranks)), (.int .i64 p1.owing)])) rfl rfl (Light.quiet (opFieldAddrR rfl fieldA_28_0 rfl rfl)) ?_
      refine ASL.q (v := (.list 1 (List.map (AV.int .i64) p1.ranks))) rfl rfl (Light.quiet (opLoadR rfl aggA_26 rfl rfl)) ?_
      refine ASL.q (v := (.int .i64 (p1.ranks.length : Int))) rfl rfl (Light.quiet (opLenMap (f := (AV.int .i64)) rfl rfl rfl lenT_26 rfl)) ?_
      refine ASL.q (v := (.int .i64 0)) rfl rfl (Light.quiet (opMove rfl rfl)) ?_
      refine ASL.done ?_
      refine AWP.block ?_
      obtain ⟨o6, hL5, hR7⟩ := bindE hF
      refine AWP.loopF (ω := Unit) hL5 (fun s w => [(2, (.rptr [(.int .i64 p0.letters), (.int .i64 p0.states), (.int .i64 p0.start), (.list 4 (List.map TEdge.av p0.edges))])), (3, (.rptr [(.list 1 (List.map (AV.int .i64) p1.ranks)), (.int .i64 p1.owing)])), (33, (.list 1 (List.map (AV.int .i64) p1.ranks))), (34, (.int .i64 (p1.ranks.length : Int))), (35, (.int .i64 s))]) (fun s w => []) () ⟨rfl, rfl, rfl, rfl, rfl, trivial⟩ (hS.pick [] rfl rfl) ?_
      rintro x35_l0 _ G8 hS x3 hF hx4
      try dsimp only at hS ⊢
      have hF : impl_RankOk.b0 p1 p0 x35_l0 = some x3 := hF; unfold impl_RankOk.b0 at hF
      refine AWP.seqR rfl ?_
      refine ASL.q (v := (.bool (decide (x35_l0 < ((p1.ranks.length : Int)))))) rfl rfl (Light.quiet (opInt rfl rfl rfl rfl)) ?_
      refine ASL.done ?_
      refine AWP.seq ?_
      refine AWP.ifP hF rfl (fun hc9 hF => ?_) (fun hc9 hF => ?_)
      · skip
        refine AWP.skip ?_
        refine QThen.nrm ?_
        refine AWP.seq ?_
        refine AWP.block ?_
        refine AWP.seqR rfl ?_
        refine ASL.q (v := (.int .i64 x35_l0)) rfl rfl (Light.quiet (opMove rfl rfl)) ?_
        obtain ⟨a38, ha38, hF⟩ := bindE hF
        refine ASL.q (v := (.rptr [(.int .i64 a38)])) rfl rfl (Light.quiet (kIx (f := (AV.int .i64)) ha38 rfl rfl rfl elemA_26 sizeA_3 rfl)) ?_
        refine ASL.q (v := (.int .i64 a38)) rfl rfl (Light.quiet (opLoadR rfl aggA_3 rfl rfl)) ?_
        refine ASL.q (v := (.int .i64 x35_l0)) rfl rfl (Light.quiet (opAssign rfl rfl)) ?_
        refine ASL.q (v := (.int .i64 a38)) rfl rfl (Light.quiet (opAssign rfl rfl)) ?_
        refine ASL.done ?_
        refine AWP.seqR rfl ?_
        refine ASL.q (v := (.int .i64 a38)) rfl rfl (Light.quiet (opMove rfl rfl)) ?_
        refine ASL.q (v := (.rptr [(.int .i64 p0.states), (.int .i64 p0.start), (.list 4 (List.map TEdge.av p0.edges))])) rfl rfl (Light.quiet (opFieldAddrR rfl fieldA_33_1 rfl rfl)) ?_
        refine ASL.q (v := (.int .i64 p0.states)) rfl rfl (Light.quiet (opLoadR rfl aggA_3 rfl rfl)) ?_
        refine ASL.q (v := (.int .i64 (W (2 * p0.states)))) rfl rfl (Light.quiet (opInt rfl rfl rfl rfl)) ?_
        refine ASL.q (v := (.bool (impl_inRange a38 ((-1)) ((W (2 * p0.states)))))) rfl rfl ((qCall rfl rfl call_43 (impl_inRange_ok a38 ((-1)) ((W (2 * p0.states)))) rfl)) ?_
        refine ASL.q (v := (.bool (!(impl_inRange a38 ((-1)) ((W (2 * p0.states))))))) rfl rfl (Light.quiet (opNot rfl rfl)) ?_
        obtain ⟨c46, hc46, hF⟩ := bndE hF
        refine ASL.q (v := (.bool c46)) rfl rfl ((Quiet.cast (Light.quiet (opMove rfl rfl)) (congrArg AV.bool hc46.symm))) ?_
        refine ASL.g (v := (.rptr [(.int .i64 p1.owing)])) (.bool c46) false rfl (wF _) rfl (fun hG => by have q0 := gN hG; subst q0; exact Light.quiet (opFieldAddrR rfl fieldA_28_1 rfl rfl)) ?_
        refine ASL.g (v := (.int .i64 p1.owing)) (.bool c46) false rfl (wF _) rfl (fun hG => by have q0 := gN hG; subst q0; exact Light.quiet (opLoadR rfl aggA_3 rfl rfl)) ?_
        refine ASL.g (v := (.int .i64 x35_l0)) (.bool c46) false rfl (wF _) rfl (fun hG => by have q0 := gN hG; subst q0; exact Light.quiet (opMove rfl rfl)) ?_
        refine ASL.g (v := (.bool (impl_has p1.owing x35_l0))) (.bool c46) false rfl (wF _) rfl (fun hG => by have q0 := gN hG; subst q0; exact (qCall rfl rfl call_50 (impl_has_ok p1.owing x35_l0) rfl)) ?_
        obtain ⟨c51, hc51, hF⟩ := bndE hF
        refine ASL.g (v := (.bool c51)) (.bool c46) false rfl (wF _) rfl (fun hG => by have q0 := gN hG; subst q0; exact (Quiet.cast (Light.quiet (opMove rfl rfl)) (congrArg AV.bool hc51.symm))) ?_
        refine ASL.g (v := (.int .i64 a38)) (bif (!c46) then (.bool c51) else .tup []) true rfl (wGT _ _) rfl (fun hG => by have q0 := gN (gA1 hG); have q1 := gA2 hG; subst q0; subst q1; exact Light.quiet (opMove rfl rfl)) ?_
        refine ASL.g (v := (.bool (decide (a38 < 0)))) (bif (!c46) then (.bool c51) else .tup []) true rfl (wGT _ _) rfl (fun hG => by have q0 := gN (gA1 hG); have q1 := gA2 hG; subst q0; subst q1; exact Light.quiet (opInt rfl rfl rfl rfl)) ?_
        obtain ⟨c54, hc54, hF⟩ := bndE hF
        refine ASL.g (v := (.bool c54)) (bif (!c46) then (.bool c51) else .tup []) true rfl (wGT _ _) rfl (fun hG => by have q0 := gN (gA1 hG); have q1 := gA2 hG; subst q0; subst q1; exact (Quiet.cast (Light.quiet (opMove rfl rfl)) (congrArg AV.bool hc54.symm))) ?_
        refine ASL.g (v := (.int .i64 a38)) (bif ((!c46) && c51) then (.bool c54) else .tup []) false rfl (wGF _ _) rfl (fun hG => by have q0 := gN (gA1 (gA1 hG)); have q1 := gA2 (gA1 hG); have q2 := gN (gA2 hG); subst q0; subst q1; subst q2; exact Light.quiet (opMove rfl rfl)) ?_
        refine ASL.g (v := (.int .i64 (Int.tmod a38 2))) (bif ((!c46) && c51) then (.bool c54) else .tup []) false rfl (wGF _ _) rfl (fun hG => by have q0 := gN (gA1 (gA1 hG)); have q1 := gA2 (gA1 hG); have q2 := gN (gA2 hG); subst q0; subst q1; subst q2; exact Light.quiet (opRem rfl rfl rfl (by decide) rfl)) ?_
        refine ASL.g (v := (.bool (decide (((Int.tmod a38 2)) ≠ 0)))) (bif ((!c46) && c51) then (.bool c54) else .tup []) false rfl (wGF _ _) rfl (fun hG => by have q0 := gN (gA1 (gA1 hG)); have q1 := gA2 (gA1 hG); have q2 := gN (gA2 hG); subst q0; subst q1; subst q2; exact Light.quiet (opInt rfl rfl rfl rfl)) ?_
        refine ASL.g (v := (.bool (c54 || (decide (((Int.tmod a38 2)) ≠ 0))))) (bif (!c46) then (.bool c51) else .tup []) true rfl (wGT _ _) rfl (fun hG => by have q0 := gN (gA1 hG); have q1 := gA2 hG; subst q0; subst q1; exact Light.quiet (opPick (b := c54) rfl rfl (by cases c54 <;> rfl))) ?_
        refine ASL.g (v := (.bool (c51 && (c54 || (decide (((Int.tmod a38 2)) ≠ 0)))))) (.bool c46) false rfl (wF _) rfl (fun hG => by have q0 := gN hG; subst q0; exact Light.quiet (opPick (b := c51) rfl rfl (by cases c51 <;> rfl))) ?_
        refine ASL.q (v := (.bool (c46 || (c51 && (c54 || (decide (((Int.tmod a38 2)) ≠ 0))))))) rfl rfl (Light.quiet (opPick (b := c46) rfl rfl (by cases c46 <;> rfl))) ?_
        refine ASL.done ?_
        refine AWP.ifB hF rfl (fun hc10 hF => ?_) (fun hc10 hF => ?_)
        · skip
          refine AWP.seqR rfl ?_
          refine ASL.q (v := (.bool false)) rfl rfl (Light.quiet (opAssign rfl rfl)) ?_
          refine ASL.done ?_
          refine AWP.ret ?_
          refine QBlock.ret ?_
          refine QThen.rt ?_
          refine QThen.rt ?_
          refine QBlock.ret ?_
          refine QThen.rt ?_
          obtain rfl := (hx4 _ (someE hF).symm)
          have hF := hR7
          have hF := sumR hF
          obtain rfl := someE hF
          exact QRet.sole (v := (.bool false)) ⟨rfl, trivial⟩ rfl
        · skip
          refine AWP.skip ?_
          refine QBlock.nrm ?_
          refine QThen.nrm ?_
          refine AWP.lastR rfl ?_
          refine ASL.q (v := (.int .i64 (W (x35_l0 + 1)))) rfl rfl (Light.quiet (opInt rfl rfl rfl rfl)) ?_
          refine ASL.q (v := (.int .i64 (W (x35_l0 + 1)))) rfl rfl (Light.quiet (opMove rfl rfl)) ?_
          refine ASL.done ?_
          refine QThen.nrm ?_
          exact ⟨(W (x35_l0 + 1)), (), (someE hF).symm, ⟨rfl, rfl, rfl, rfl, rfl, trivial⟩, (hS.pick [] rfl rfl)⟩
      · skip
        refine AWP.exit ?_
        refine QThen.ext ?_
        refine QThen.ext ?_
        refine QBlock.hit ?_
        obtain rfl := (hx4 _ (someE hF).symm)
        have hF := hR7
        have hF := sumL hF
        refine QThen.nrm ?_
        exact ⟨trivial, (hS.pick [] rfl rfl), hF⟩

set_option maxRecDepth 10000 in
theorem impl_bounds_ok {p0 : TAuto} {p1 : TRankState} {p2 : Int} {r : (List Int)} (hF : impl_bounds p0 p1 p2 = some r) : PO Try.prog 63 [(TAuto.av p0), (TRankState.av p1), (.int .i64 p2)] 1 (List.map (AV.int .i64) r) := by
  refine HC.enter Try.func63 rfl Try.ntmps63 (by simp) ?_
  have hS := Sep.void; unfold impl_bounds at hF
  refine AWP.seqR rfl ?_
  refine ASL.q (v := (.rptr [(.int .i64 p0.letters), (.int .i64 p0.states), (.int .i64 p0.start), (.list 4 (List.map TEdge.av p0.edges))])) rfl rfl ((qBoxI (v := (TAuto.av p0)) rfl rfl rfl rfl)) ?_
  refine ASL.q (v := (.rptr [(.list 1 (List.map (AV.int .i64) p1.ranks)), (.int .i64 p1.owing)])) rfl rfl ((qBoxI (v := (TRankState.av p1)) rfl rfl rfl rfl)) ?_
  have hS := hNil (s := 1) (f := (AV.int .i64)) hS
  refine ASL.q (v := .nil) rfl rfl (Light.quiet (opAssign rfl rfl)) ?_
  refine ASL.done ?_
  refine AWP.seqR rfl ?_
  refine ASL.q (v := (.rptr [(.int .i64 p0.states), (.int .i64 p0.start), (.list 4 (List.map TEdge.av p0.edges))])) rfl rfl (Light.quiet (opFieldAddrR rfl fieldA_33_1 rfl rfl)) ?_
  refine ASL.q (v := (.int .i64 p0.states)) rfl rfl (Light.quiet (opLoadR rfl aggA_3 rfl rfl)) ?_
  obtain ⟨z14, hz14, hF⟩ := bindE hF
  refine ASL.x rfl rfl (hMk (f := (AV.int .i64)) hS hz14 (by decide) rfl elemA_26 sizeA_3 bytesA_3 zeroA_3 rfl rfl (by decide) rfl rfl ?_); rintro v14 G2 hK hS
  refine ASL.q (v := v14) rfl rfl (Light.quiet (opAssign rfl rfl)) ?_
  refine ASL.done ?_
  refine AWP.seqM (fun e H => ∃ y4 : (List Int), E.Told e [(2, (.int .i64 p2)), (3, (.rptr [(.int .i64 p0.letters), (.int .i64 p0.states), (.int .i64 p0.start), (.list 4 (List.map TEdge.av p0.edges))])), (4, (.rptr [(.list 1 (List.map (AV.int .i64) p1.ranks)), (.int .i64 p1.owing)])), (7, v14)] ∧ E.Sep H [.row 1 v14 (List.map (AV.int .i64) y4)] ∧ impl_bounds.k0 p0 p1 p2 y4 = some r) ?_ ?_
  · rintro e0 G23 ⟨y4, hT, hS, hF⟩; refine AWP.only _ hT ?_; unfold impl_bounds.k0 at hF
    refine AWP.seqM (fun e H => ∃ y5 : (List Int), E.Told e [(7, v14)] ∧ E.Sep H [.row 1 v14 (List.map (AV.int .i64) y5)] ∧ impl_bounds.k1 y5 = some r) ?_ ?_
    · rintro e0 G6 ⟨y5, hT, hS, hF⟩; refine AWP.only _ hT ?_; unfold impl_bounds.k1 at hF
      refine AWP.seqR rfl ?_
      refine ASL.q (v := v14) rfl rfl (Light.quiet (opMove rfl rfl)) ?_
      refine ASL.q (v := v14) rfl rfl (Light.quiet (opAssign rfl rfl)) ?_
      refine ASL.done ?_
      refine AWP.ret ?_
      obtain rfl := someE hF
      exact QRet.sole (v := v14) ⟨rfl, trivial⟩ (hS.get (k := 0) rfl)
    · skip
      refine AWP.seqR rfl ?_
      refine ASL.q (v := (.rptr [(.list 4 (List.map TEdge.av p0.edges))])) rfl rfl (Light.quiet (opFieldAddrR rfl fieldA_33_3 rfl rfl)) ?_
      refine ASL.q (v := (.list 4 (List.map TEdge.av p0.edges))) rfl rfl (Light.quiet (opLoadR rfl aggA_31 rfl rfl)) ?_
      refine ASL.q (v := (.int .i64 (p0.edges.length : Int))) rfl rfl (Light.quiet (opLenMap (f := TEdge.av) rfl rfl rfl lenT_31 rfl)) ?_
      refine ASL.q (v := (.int .i64 0)) rfl rfl (Light.quiet (opMove rfl rfl)) ?_
      refine ASL.done ?_
      refine AWP.block ?_
      obtain ⟨o11, hL10, hR12⟩ := bindE hF
      refine AWP.loopF (ω := Unit) hL10 (fun s w => [(2, (.int .i64 p2)), (4, (.rptr [(.list 1 (List.map (AV.int .i64) p1.ranks)), (.int .i64 p1.owing)])), (7, v14), (25, (.list 4 (List.map TEdge.av p0.edges))), (26, (.int .i64 (p0.edges.length : Int))), (27, (.int .i64 s.2))]) (fun s w => [.row 1 v14 (List.map (AV.int .i64) s.1)]) () ⟨rfl, rfl, rfl, rfl, rfl, rfl, trivial⟩ (hS.pick [0] rfl rfl) ?_
      rintro ⟨y7, x27_l0⟩ _ G13 hS x8 hF hx9
      try dsimp only at hS ⊢
      have hF : impl_bounds.b0 p0 p1 p2 y7 x27_l0 = some x8 := hF; unfold impl_bounds.b0 at hF
      refine AWP.seqR rfl ?_
      refine ASL.q (v := (.bool (decide (x27_l0 < ((p0.edges.length : Int)))))) rfl rfl (Light.quiet (opInt rfl rfl rfl rfl)) ?_
      refine ASL.done ?_
      refine AWP.seq ?_
      refine AWP.ifP hF rfl (fun hc14 hF => ?_) (fun hc14 hF => ?_)
      · skip
        refine AWP.skip ?_
        refine QThen.nrm ?_
        refine AWP.seq ?_
        refine AWP.block ?_
        refine AWP.seqR rfl ?_
        obtain ⟨a29, ha29, hF⟩ := bindE hF
        refine ASL.q (v := (.rptr [(.int .i64 a29.from_), (.int .i64 a29.letter), (.int .i64 a29.to_), (.bool a29.good)])) rfl rfl (Light.quiet (kIx (f := TEdge.av) ha29 rfl rfl rfl elemA_31 sizeA_73 rfl)) ?_
        refine ASL.q (v := (TEdge.av a29)) rfl rfl (Light.quiet (opLoadRA rfl aggA_73 sizeA_73 rfl (nlt rfl) rfl)) ?_
        refine ASL.x rfl rfl (hNewZ hS [(.int .i64 0), (.int .i64 0), (.int .i64 0), (.bool false)] rfl zeroA_73 ⟨.inl rfl, .inl rfl, .inl rfl, .inl rfl, trivial⟩ ?_); rintro b10 G15 hK hS
        refine ASL.n rfl rfl (hPutA hS (j := 0) rfl rfl sizeA_73 rfl rfl rfl rfl rfl (nlt rfl) ?_); rintro G17 hS
        refine ASL.done ?_
        refine AWP.seqR rfl ?_
        refine ASL.q (v := (.rptr [(.list 1 (List.map (AV.int .i64) p1.ranks)), (.int .i64 p1.owing)])) rfl rfl (Light.quiet (opFieldAddrR rfl fieldA_28_0 rfl rfl)) ?_
        refine ASL.q (v := (.list 1 (List.map (AV.int .i64) p1.ranks))) rfl rfl (Light.quiet (opLoadR rfl aggA_26 rfl rfl)) ?_
        refine ASL.q (v := (.ptr b10 0)) rfl rfl (Light.quiet (opFieldAddr rfl fieldA_73_0 rfl rfl)) ?_
        refine ASL.q (v := (.int .i64 a29.from_)) rfl rfl (Light.quiet (kAt hS (j := 0) rfl rfl aggA_3 rfl rfl)) ?_
        obtain ⟨a35, ha35, hF⟩ := bindE hF
        refine ASL.q (v := (.rptr [(.int .i64 a35)])) rfl rfl (Light.quiet (kIx (f := (AV.int .i64)) ha35 rfl rfl rfl elemA_26 sizeA_3 rfl)) ?_
        refine ASL.q (v := (.int .i64 a35)) rfl rfl (Light.quiet (opLoadR rfl aggA_3 rfl rfl)) ?_
        refine ASL.q (v := (.int .i64 a35)) rfl rfl (Light.quiet (opAssign rfl rfl)) ?_
        refine ASL.done ?_
        refine AWP.seq ?_
        refine AWP.seqR rfl ?_
        refine ASL.q (v := (.ptr b10 1)) rfl rfl (Light.quiet (opFieldAddr rfl fieldA_73_1 rfl rfl)) ?_
        refine ASL.q (v := (.int .i64 a29.letter)) rfl rfl (Light.quiet (kAt hS (j := 0) rfl rfl aggA_3 rfl rfl)) ?_
        refine ASL.q (v := (.int .i64 p2)) rfl rfl (Light.quiet (opMove rfl rfl)) ?_
        refine ASL.q (v := (.bool (decide (a29.letter ≠ p2)))) rfl rfl (Light.quiet (opInt rfl rfl rfl rfl)) ?_
        obtain ⟨c41, hc41, hF⟩ := bndE hF
        refine ASL.q (v := (.bool c41)) rfl rfl ((Quiet.cast (Light.quiet (opMove rfl rfl)) (congrArg AV.bool hc41.symm))) ?_
        refine ASL.g (v := (.int .i64 a35)) (.bool c41) false rfl (wF _) rfl (fun hG => by have q0 := gN hG; subst q0; exact Light.quiet (opMove rfl rfl)) ?_
        refine ASL.g (v := (.bool (decide (a35 < 0)))) (.bool c41) false rfl (wF _) rfl (fun hG => by have q0 := gN hG; subst q0; exact Light.quiet (opInt rfl rfl rfl rfl)) ?_
        refine ASL.q (v := (.bool (c41 || (decide (a35 < 0))))) rfl rfl (Light.quiet (opPick (b := c41) rfl rfl (by cases c41 <;> rfl))) ?_
        refine ASL.done ?_
        refine AWP.ifB hF rfl (fun hc18 hF => ?_) (fun hc18 hF => ?_)
        · skip
          refine AWP.exit ?_
          refine QThen.ext ?_
          refine QBlock.hit ?_
          refine QThen.nrm ?_
          refine AWP.lastR rfl ?_
          refine ASL.q (v := (.int .i64 (W (x27_l0 + 1)))) rfl rfl (Light.quiet (opInt rfl rfl rfl rfl)) ?_
          refine ASL.q (v := (.int .i64 (W (x27_l0 + 1)))) rfl rfl (Light.quiet (opMove rfl rfl)) ?_
          refine ASL.done ?_
          refine QThen.nrm ?_
          exact ⟨(y7, (W (x27_l0 + 1))), (), (someE hF).symm, ⟨rfl, rfl, rfl, rfl, rfl, rfl, trivial⟩, (hS.pick [1] rfl rfl)⟩
        · skip
          refine AWP.skip ?_
          refine QThen.nrm ?_
          refine AWP.seqM (fun e H => ∃ x11_3 : Int, E.Told e [(2, (.int .i64 p2)), (4, (.rptr [(.list 1 (List.map (AV.int .i64) p1.ranks)), (.int .i64 p1.owing)])), (7, v14), (10, (.ptr b10 0)), (11, (.int .i64 x11_3)), (25, (.list 4 (List.map TEdge.av p0.edges))), (26, (.int .i64 (p0.edges.length : Int))), (27, (.int .i64 x27_l0))] ∧ E.Sep H [.row 1 v14 (List.map (AV.int .i64) y7), .cell b10 [(.int .i64 a29.from_), (.int .i64 a29.letter), (.int .i64 a29.to_), (.bool a29.good)]] ∧ impl_bounds.k2 y7 a29 x27_l0 x11_3 = some x8) ?_ ?_
          · rintro e0 G21 ⟨x11_3, hT, hS, hF⟩; refine AWP.only _ hT ?_; unfold impl_bounds.k2 at hF
            refine AWP.seqR rfl ?_
            refine ASL.q (v := v14) rfl rfl (Light.quiet (opMove rfl rfl)) ?_
            refine ASL.q (v := (.ptr b10 2)) rfl rfl (Light.quiet (opFieldAddr rfl fieldA_73_2 rfl rfl)) ?_
            refine ASL.q (v := (.int .i64 a29.to_)) rfl rfl (Light.quiet (kAt hS (j := 1) rfl rfl aggA_3 rfl rfl)) ?_
            obtain ⟨a54, ha54, hF⟩ := bindE hF
            refine ASL.q (v := (ptrTo v14 a29.to_.toNat 1)) rfl rfl (Light.quiet (kIxOx hS (j := 0) rfl ha54 rfl rfl rfl elemA_26 sizeA_3)) ?_
            refine ASL.q (v := (.int .i64 a54)) rfl rfl (Light.quiet (kLd (f := (AV.int .i64)) hS (j := 0) rfl ha54 rfl aggA_3 rfl (fun _ => rfl))) ?_
            refine ASL.q (v := (.bool (decide (a54 < 0)))) rfl rfl (Light.quiet (opInt rfl rfl rfl rfl)) ?_
            obtain ⟨c57, hc57, hF⟩ := bndE hF
            refine ASL.q (v := (.bool c57)) rfl rfl ((Quiet.cast (Light.quiet (opMove rfl rfl)) (congrArg AV.bool hc57.symm))) ?_
            refine ASL.g (v := (.int .i64 x11_3)) (.bool c57) false rfl (wF _) rfl (fun hG => by have q0 := gN hG; subst q0; exact Light.quiet (opMove rfl rfl)) ?_
            refine ASL.g (v := v14) (.bool c57) false rfl (wF _) rfl (fun hG => by have q0 := gN hG; subst q0; exact Light.quiet (opMove rfl rfl)) ?_
            refine ASL.g (v := (.ptr b10 2)) (.bool c57) false rfl (wF _) rfl (fun hG => by have q0 := gN hG; subst q0; exact Light.quiet (opFieldAddr rfl fieldA_73_2 rfl rfl)) ?_
            refine ASL.g (v := (.int .i64 a29.to_)) (.bool c57) false rfl (wF _) rfl (fun hG => by have q0 := gN hG; subst q0; exact Light.quiet (kAt hS (j := 1) rfl rfl aggA_3 rfl rfl)) ?_
            obtain ⟨a62, ha62, hF⟩ := bindE hF
            refine ASL.g (v := (ptrTo v14 a29.to_.toNat 1)) (.bool c57) false rfl (wF _) rfl (fun hG => by have q0 := gN hG; subst q0; exact Light.quiet (kIxOx hS (j := 0) rfl (whenE ha62) rfl rfl rfl elemA_26 sizeA_3)) ?_
            refine ASL.g (v := (.int .i64 a62)) (.bool c57) false rfl (wF _) rfl (fun hG => by have q0 := gN hG; subst q0; exact Light.quiet (kLd (f := (AV.int .i64)) hS (j := 0) rfl (whenE ha62) rfl aggA_3 rfl (fun _ => rfl))) ?_
            refine ASL.g (v := (.bool (decide (x11_3 < a62)))) (.bool c57) false rfl (wF _) rfl (fun hG => by have q0 := gN hG; subst q0; exact Light.quiet (opInt rfl rfl rfl rfl)) ?_
            refine ASL.q (v := (.bool (c57 || (decide (x11_3 < a62))))) rfl rfl (Light.quiet (opPick (b := c57) rfl rfl (by cases c57 <;> rfl))) ?_
            refine ASL.done ?_
            refine AWP.ifB hF rfl (fun hc19 hF => ?_) (fun hc19 hF => ?_)
            · skip
              refine AWP.lastR rfl ?_
              refine ASL.q (v := v14) rfl rfl (Light.quiet (opMove rfl rfl)) ?_
              refine ASL.q (v := (.ptr b10 2)) rfl rfl (Light.quiet (opFieldAddr rfl fieldA_73_2 rfl rfl)) ?_
              refine ASL.q (v := (.int .i64 a29.to_)) rfl rfl (Light.quiet (kAt hS (j := 1) rfl rfl aggA_3 rfl rfl)) ?_
              refine ASL.q (v := (.int .i64 x11_3)) rfl rfl (Light.quiet (opMove rfl rfl)) ?_
              obtain ⟨m70, hm70, hF⟩ := bindE hF
              refine ASL.q (v := (ptrTo v14 m70 1)) rfl rfl (Light.quiet (kIxO hS (j := 0) rfl hm70 rfl rfl rfl elemA_26 sizeA_3)) ?_
              refine ASL.n rfl rfl (hSt (f := (AV.int .i64)) (a := x11_3) hS (j := 0) rfl hm70 rfl sizeA_3 rfl rfl ⟨rfl, rfl, rfl⟩ ?_); rintro G20 hS
              refine ASL.done ?_
              refine QBlock.nrm ?_
              refine QThen.nrm ?_
              refine AWP.lastR rfl ?_
              refine ASL.q (v := (.int .i64 (W (x27_l0 + 1)))) rfl rfl (Light.quiet (opInt rfl rfl rfl rfl)) ?_
              refine ASL.q (v := (.int .i64 (W (x27_l0 + 1)))) rfl rfl (Light.quiet (opMove rfl rfl)) ?_
              refine ASL.done ?_
              refine QThen.nrm ?_
              exact ⟨((y7.set m70 x11_3), (W (x27_l0 + 1))), (), (someE hF).symm, ⟨rfl, rfl, rfl, rfl, rfl, rfl, trivial⟩, (hS.pick [0] rfl rfl)⟩
            · skip
              refine AWP.skip ?_
              refine QBlock.nrm ?_
              refine QThen.nrm ?_
              refine AWP.lastR rfl ?_
              refine ASL.q (v := (.int .i64 (W (x27_l0 + 1)))) rfl rfl (Light.quiet (opInt rfl rfl rfl rfl)) ?_
              refine ASL.q (v := (.int .i64 (W (x27_l0 + 1)))) rfl rfl (Light.quiet (opMove rfl rfl)) ?_
              refine ASL.done ?_
              refine QThen.nrm ?_
              exact ⟨(y7, (W (x27_l0 + 1))), (), (someE hF).symm, ⟨rfl, rfl, rfl, rfl, rfl, rfl, trivial⟩, (hS.pick [0] rfl rfl)⟩
          · skip
            refine AWP.seqR rfl ?_
            refine ASL.q (v := (.ptr b10 3)) rfl rfl (Light.quiet (opFieldAddr rfl fieldA_73_3 rfl rfl)) ?_
            refine ASL.q (v := (.bool a29.good)) rfl rfl (Light.quiet (kAt hS (j := 0) rfl rfl aggA_4 rfl rfl)) ?_
            refine ASL.done ?_
            refine AWP.ifB hF rfl (fun hc22 hF => ?_) (fun hc22 hF => ?_)
            · skip
              refine AWP.lastR rfl ?_
              refine ASL.q (v := (.int .i64 a35)) rfl rfl (Light.quiet (opMove rfl rfl)) ?_
              refine ASL.q (v := (.int .i64 a35)) rfl rfl (Light.quiet (opMove rfl rfl)) ?_
              refine ASL.q (v := (.int .i64 (Int.tmod a35 2))) rfl rfl (Light.quiet (opRem rfl rfl rfl (by decide) rfl)) ?_
              refine ASL.q (v := (.int .i64 (W (a35 - ((Int.tmod a35 2)))))) rfl rfl (Light.quiet (opInt rfl rfl rfl rfl)) ?_
              refine ASL.q (v := (.int .i64 (W (a35 - ((Int.tmod a35 2)))))) rfl rfl (Light.quiet (opAssign rfl rfl)) ?_
              refine ASL.done ?_
              refine QThen.nrm ?_
              exact ⟨(W (a35 - ((Int.tmod a35 2)))), ⟨rfl, rfl, rfl, rfl, rfl, rfl, rfl, rfl, trivial⟩, (hS.pick [1, 0] rfl rfl), hF⟩
            · skip
              refine AWP.skip ?_
              refine QThen.nrm ?_
              exact ⟨a35, ⟨rfl, rfl, rfl, rfl, rfl, rfl, rfl, rfl, trivial⟩, (hS.pick [1, 0] rfl rfl), hF⟩
      · skip
        refine AWP.exit ?_
        refine QThen.ext ?_
        refine QThen.ext ?_
        refine QBlock.hit ?_
        obtain rfl := (hx9 _ (someE hF).symm)
        have hF := hR12
        refine QThen.nrm ?_
        exact ⟨y7, ⟨rfl, trivial⟩, (hS.pick [0] rfl rfl), hF⟩
  · skip
    refine AWP.seqR rfl ?_
    refine ASL.q (v := v14) rfl rfl (Light.quiet (opMove rfl rfl)) ?_
    refine ASL.q (v := (.int .i64 (z14.length : Int))) rfl rfl (Light.quiet (kLen hS (j := 0) rfl rfl rfl rfl lenT_26 rfl)) ?_
    refine ASL.q (v := (.int .i64 0)) rfl rfl (Light.quiet (opMove rfl rfl)) ?_
    refine ASL.done ?_
    refine AWP.block ?_
    obtain ⟨o28, hL27, hR29⟩ := bindE hF
    refine AWP.loopF (ω := Unit) hL27 (fun s w => [(2, (.int .i64 p2)), (3, (.rptr [(.int .i64 p0.letters), (.int .i64 p0.states), (.int .i64 p0.start), (.list 4 (List.map TEdge.av p0.edges))])), (4, (.rptr [(.list 1 (List.map (AV.int .i64) p1.ranks)), (.int .i64 p1.owing)])), (7, v14), (16, (.int .i64 (z14.length : Int))), (17, (.int .i64 s.2))]) (fun s w => [.row 1 v14 (List.map (AV.int .i64) s.1)]) () ⟨rfl, rfl, rfl, rfl, rfl, rfl, trivial⟩ (hS.pick [0] rfl rfl) ?_
    rintro ⟨y24, x17_l1⟩ _ G30 hS x25 hF hx26
    try dsimp only at hS ⊢
    have hF : impl_bounds.b1 z14 y24 x17_l1 = some x25 := hF; unfold impl_bounds.b1 at hF
    refine AWP.seqR rfl ?_
    refine ASL.q (v := (.bool (decide (x17_l1 < ((z14.length : Int)))))) rfl rfl (Light.quiet (opInt rfl rfl rfl rfl)) ?_
    refine ASL.done ?_
    refine AWP.seq ?_
    refine AWP.ifP hF rfl (fun hc31 hF => ?_) (fun hc31 hF => ?_)
    · skip
      refine AWP.skip ?_
      refine QThen.nrm ?_
      refine AWP.seq ?_
      refine AWP.block ?_
      refine AWP.seqR rfl ?_
      refine ASL.q (v := (.int .i64 x17_l1)) rfl rfl (Light.quiet (opMove rfl rfl)) ?_
      refine ASL.q (v := (.int .i64 x17_l1)) rfl rfl (Light.quiet (opAssign rfl rfl)) ?_
      refine ASL.done ?_
      refine AWP.lastR rfl ?_
      refine ASL.q (v := v14) rfl rfl (Light.quiet (opMove rfl rfl)) ?_
      refine ASL.q (v := (.int .i64 x17_l1)) rfl rfl (Light.quiet (opMove rfl rfl)) ?_
      obtain ⟨m22, hm22, hF⟩ := bindE hF
      refine ASL.q (v := (ptrTo v14 m22 1)) rfl rfl (Light.quiet (kIxO hS (j := 0) rfl hm22 rfl rfl rfl elemA_26 sizeA_3)) ?_
      refine ASL.n rfl rfl (hSt (f := (AV.int .i64)) (a := (-1)) hS (j := 0) rfl hm22 rfl sizeA_3 rfl rfl ⟨rfl, rfl, rfl⟩ ?_); rintro G32 hS
      refine ASL.done ?_
      refine QBlock.nrm ?_
      refine QThen.nrm ?_
      refine AWP.lastR rfl ?_
      refine ASL.q (v := (.int .i64 (W (x17_l1 + 1)))) rfl rfl (Light.quiet (opInt rfl rfl rfl rfl)) ?_
      refine ASL.q (v := (.int .i64 (W (x17_l1 + 1)))) rfl rfl (Light.quiet (opMove rfl rfl)) ?_
      refine ASL.done ?_
      refine QThen.nrm ?_
      exact ⟨((y24.set m22 ((-1))), (W (x17_l1 + 1))), (), (someE hF).symm, ⟨rfl, rfl, rfl, rfl, rfl, rfl, trivial⟩, (hS.pick [0] rfl rfl)⟩
    · skip
      refine AWP.exit ?_
      refine QThen.ext ?_
      refine QThen.ext ?_
      refine QBlock.hit ?_
      obtain rfl := (hx26 _ (someE hF).symm)
      have hF := hR29
      refine QThen.nrm ?_
      exact ⟨y24, ⟨rfl, rfl, rfl, rfl, trivial⟩, (hS.pick [0] rfl rfl), hF⟩

set_option maxRecDepth 10000 in
theorem slices_Clone_int_int_ok {p0 : (List Int)} {r : (List Int)} (hF : slices_Clone_int_int p0 = some r) : PO Try.prog 64 [(.list 1 (List.map (AV.int .i64) p0))] 1 (List.map (AV.int .i64) r) := by
  refine HC.enter Try.func64 rfl Try.ntmps64 (by simp) ?_
  have hS := Sep.void; unfold slices_Clone_int_int at hF
  refine AWP.seqR rfl ?_
  have hS := hNil (s := 1) (f := (AV.int .i64)) hS
  refine ASL.q (v := .nil) rfl rfl (Light.quiet (opAssign rfl rfl)) ?_
  refine ASL.done ?_
  refine AWP.seq ?_
  refine AWP.seqR rfl ?_
  refine ASL.q (v := (.list 1 (List.map (AV.int .i64) p0))) rfl rfl (Light.quiet (opMove rfl rfl)) ?_
  refine ASL.x rfl rfl (opNilT rfl und_26 rfl rfl ?_); rintro b4 hb4
  refine ASL.done ?_
  refine AWP.ifN hF rfl (fun h => by simpa using hb4 h) (fun h g => by subst h; exact g) (fun hF => ?_) (fun hF => ?_)
  · skip
    refine AWP.seqR rfl ?_
    have hS := hNil (s := 1) (f := (AV.int .i64)) hS
    refine ASL.q (v := .nil) rfl rfl (Light.quiet (opAssign rfl rfl)) ?_
    refine ASL.done ?_
    refine AWP.ret ?_
    refine QThen.rt ?_
    obtain rfl := someE hF
    exact QRet.sole (v := .nil) ⟨rfl, trivial⟩ (hS.get (k := 0) rfl)
  · skip
    refine AWP.skip ?_
    refine QThen.nrm ?_
    refine AWP.seqR rfl ?_
    refine ASL.x rfl rfl (hLit (f := (AV.int .i64)) (zs := []) hS rfl rfl elemA_26 sizeA_3 zeroA_3 rfl rfl rfl rfl (by simp [cells]) (nlt rfl) ?_); rintro v5 G3 hK hS
    refine ASL.q (v := (.list 1 (List.map (AV.int .i64) p0))) rfl rfl (Light.quiet (opMove rfl rfl)) ?_
    obtain ⟨z7, hz7, hF⟩ := bindE hF
    refine ASL.x rfl rfl (hApp (f := (AV.int .i64)) (ws := p0) hS (j := 0) rfl hz7 rfl elemA_26 rfl sizeA_3 bytesA_3 zeroA_3 rfl rfl rfl (fun _ => rfl) ?_); rintro v7 G5 hS
    refine ASL.q (v := v7) rfl rfl (Light.quiet (opAssign rfl rfl)) ?_
    refine ASL.done ?_
    refine AWP.ret ?_
    obtain rfl := someE hF
    exact QRet.sole (v := v7) ⟨rfl, trivial⟩ (hS.get (k := 0) rfl)

set_option maxRecDepth 10000 in
theorem impl_Auto_step_ok {p0 : TAuto} {p1 : Int} {p2 : Int} {r : Int} (hF : impl_Auto_step p0 p1 p2 = some r) : PC Try.prog 65 [(.rptr [(.int .i64 p0.letters), (.int .i64 p0.states), (.int .i64 p0.start), (.list 4 (List.map TEdge.av p0.edges))]), (.int .i64 p1), (.int .i64 p2)] fun v => v = (.int .i64 r) := by
  refine PC.enter Try.func65 rfl Try.ntmps65 (by simp) ?_
  have hS := Sep.void; unfold impl_Auto_step at hF
  refine AWP.seqR rfl ?_
  refine ASL.q (v := (.int .i64 0)) rfl rfl (Light.quiet (opAssign rfl rfl)) ?_
  refine ASL.done ?_
  refine AWP.seqR rfl ?_
  refine ASL.q (v := (.int .i64 0)) rfl rfl (Light.quiet (opAssign rfl rfl)) ?_
  refine ASL.done ?_
  refine AWP.seqM (fun e H => ∃ x7_1 : Int, E.Told e [(7, (.int .i64 x7_1))] ∧ E.Sep H [] ∧ impl_Auto_step.k0 x7_1 = some r) ?_ ?_
  · rintro e0 G1 ⟨x7_1, hT, hS, hF⟩; refine AWP.only _ hT ?_; unfold impl_Auto_step.k0 at hF
    refine AWP.seqR rfl ?_
    refine ASL.q (v := (.int .i64 x7_1)) rfl rfl (Light.quiet (opMove rfl rfl)) ?_
    refine ASL.q (v := (.int .i64 x7_1)) rfl rfl (Light.quiet (opAssign rfl rfl)) ?_
    refine ASL.done ?_
    refine AWP.ret ?_
    obtain rfl := someE hF
    exact QRet.sole (v := (.int .i64 x7_1)) ⟨rfl, trivial⟩ rfl
  · skip
    refine AWP.seqR rfl ?_
    refine ASL.q (v := (.rptr [(.int .i64 p0.letters), (.int .i64 p0.states), (.int .i64 p0.start), (.list 4 (List.map TEdge.av p0.edges))])) rfl rfl (Light.quiet (opMove rfl rfl)) ?_
    refine ASL.q (v := (.rptr [(.int .i64 p0.letters), (.int .i64 p0.states), (.int .i64 p0.start), (.list 4 (List.map TEdge.av p0.edges))])) rfl rfl (Light.quiet (opNil rfl rfl rfl)) ?_
    refine ASL.q (v := (.rptr [(.list 4 (List.map TEdge.av p0.edges))])) rfl rfl (Light.quiet (opFieldAddrR rfl fieldA_33_3 rfl rfl)) ?_
    refine ASL.q (v := (.list 4 (List.map TEdge.av p0.edges))) rfl rfl (Light.quiet (opLoadR rfl aggA_31 rfl rfl)) ?_
    refine ASL.q (v := (.int .i64 (p0.edges.length : Int))) rfl rfl (Light.quiet (opLenMap (f := TEdge.av) rfl rfl rfl lenT_31 rfl)) ?_
    refine ASL.q (v := (.int .i64 0)) rfl rfl (Light.quiet (opMove rfl rfl)) ?_
    refine ASL.done ?_
    refine AWP.block ?_
    obtain ⟨o5, hL4, hR6⟩ := bindE hF
    refine AWP.loopF (ω := Unit) hL4 (fun s w => [(1, (.int .i64 p1)), (2, (.int .i64 p2)), (7, (.int .i64 s.1)), (13, (.list 4 (List.map TEdge.av p0.edges))), (14, (.int .i64 (p0.edges.length : Int))), (15, (.int .i64 s.2))]) (fun s w => []) () ⟨rfl, rfl, rfl, rfl, rfl, rfl, trivial⟩ (hS.pick [] rfl rfl) ?_
    rintro ⟨x7_l0, x15_l0⟩ _ G7 hS x2 hF hx3
    try dsimp only at hS ⊢
    have hF : impl_Auto_step.b0 p0 p2 p1 x7_l0 x15_l0 = some x2 := hF; unfold impl_Auto_step.b0 at hF
    refine AWP.seqR rfl ?_
    refine ASL.q (v := (.bool (decide (x15_l0 < ((p0.edges.length : Int)))))) rfl rfl (Light.quiet (opInt rfl rfl rfl rfl)) ?_
    refine ASL.done ?_
    refine AWP.seq ?_
    refine AWP.ifP hF rfl (fun hc8 hF => ?_) (fun hc8 hF => ?_)
    · skip
      refine AWP.skip ?_
      refine QThen.nrm ?_
      refine AWP.seq ?_
      refine AWP.block ?_
      refine AWP.seqR rfl ?_
      obtain ⟨a17, ha17, hF⟩ := bindE hF
      refine ASL.q (v := (.rptr [(.int .i64 a17.from_), (.int .i64 a17.letter), (.int .i64 a17.to_), (.bool a17.good)])) rfl rfl (Light.quiet (kIx (f := TEdge.av) ha17 rfl rfl rfl elemA_31 sizeA_73 rfl)) ?_
      refine ASL.q (v := (TEdge.av a17)) rfl rfl (Light.quiet (opLoadRA rfl aggA_73 sizeA_73 rfl (nlt rfl) rfl)) ?_
      refine ASL.x rfl rfl (hNewZ hS [(.int .i64 0), (.int .i64 0), (.int .i64 0), (.bool false)] rfl zeroA_73 ⟨.inl rfl, .inl rfl, .inl rfl, .inl rfl, trivial⟩ ?_); rintro b9 G9 hK hS
      refine ASL.n rfl rfl (hPutA hS (j := 0) rfl rfl sizeA_73 rfl rfl rfl rfl rfl (nlt rfl) ?_); rintro G11 hS
      refine ASL.done ?_
      refine AWP.seqR rfl ?_
      refine ASL.q (v := (.ptr b9 1)) rfl rfl (Light.quiet (opFieldAddr rfl fieldA_73_1 rfl rfl)) ?_
      refine ASL.q (v := (.int .i64 a17.letter)) rfl rfl (Light.quiet (kAt hS (j := 0) rfl rfl aggA_3 rfl rfl)) ?_
      refine ASL.q (v := (.int .i64 p2)) rfl rfl (Light.quiet (opMove rfl rfl)) ?_
      refine ASL.q (v := (.bool (decide (a17.letter = p2)))) rfl rfl (Light.quiet (opInt rfl rfl rfl rfl)) ?_
      obtain ⟨c23, hc23, hF⟩ := bndE hF
      refine ASL.q (v := (.bool c23)) rfl rfl ((Quiet.cast (Light.quiet (opMove rfl rfl)) (congrArg AV.bool hc23.symm))) ?_
      refine ASL.g (v := (.int .i64 p1)) (.bool c23) true rfl (wT _) rfl (fun hG => by have q0 := hG; subst q0; exact Light.quiet (opMove rfl rfl)) ?_
      refine ASL.g (v := (.ptr b9 0)) (.bool c23) true rfl (wT _) rfl (fun hG => by have q0 := hG; subst q0; exact Light.quiet (opFieldAddr rfl fieldA_73_0 rfl rfl)) ?_
      refine ASL.g (v := (.int .i64 a17.from_)) (.bool c23) true rfl (wT _) rfl (fun hG => by have q0 := hG; subst q0; exact Light.quiet (kAt hS (j := 0) rfl rfl aggA_3 rfl rfl)) ?_
      refine ASL.g (v := (.bool (impl_has p1 a17.from_))) (.bool c23) true rfl (wT _) rfl (fun hG => by have q0 := hG; subst q0; exact (qCall rfl rfl call_50 (impl_has_ok p1 a17.from_) rfl)) ?_
      refine ASL.q (v := (.bool (c23 && (impl_has p1 a17.from_)))) rfl rfl (Light.quiet (opPick (b := c23) rfl rfl (by cases c23 <;> rfl))) ?_
      refine ASL.done ?_
      refine AWP.ifB hF rfl (fun hc12 hF => ?_) (fun hc12 hF => ?_)
      · skip
        refine AWP.lastR rfl ?_
        refine ASL.q (v := (.int .i64 x7_l0)) rfl rfl (Light.quiet (opMove rfl rfl)) ?_
        refine ASL.q (v := (.ptr b9 2)) rfl rfl (Light.quiet (opFieldAddr rfl fieldA_73_2 rfl rfl)) ?_
        refine ASL.q (v := (.int .i64 a17.to_)) rfl rfl (Light.quiet (kAt hS (j := 0) rfl rfl aggA_3 rfl rfl)) ?_
        refine ASL.q (v := (.int .i64 (impl_only a17.to_))) rfl rfl ((qCall rfl rfl call_49 (impl_only_ok a17.to_) rfl)) ?_
        refine ASL.q (v := (.int .i64 (bOr .i64 x7_l0 ((impl_only a17.to_))))) rfl rfl (Light.quiet (opInt rfl rfl rfl rfl)) ?_
        refine ASL.q (v := (.int .i64 (bOr .i64 x7_l0 ((impl_only a17.to_))))) rfl rfl (Light.quiet (opAssign rfl rfl)) ?_
        refine ASL.done ?_
        refine QBlock.nrm ?_
        refine QThen.nrm ?_
        refine AWP.lastR rfl ?_
        refine ASL.q (v := (.int .i64 (W (x15_l0 + 1)))) rfl rfl (Light.quiet (opInt rfl rfl rfl rfl)) ?_
        refine ASL.q (v := (.int .i64 (W (x15_l0 + 1)))) rfl rfl (Light.quiet (opMove rfl rfl)) ?_
        refine ASL.done ?_
        refine QThen.nrm ?_
        exact ⟨((bOr .i64 x7_l0 ((impl_only a17.to_))), (W (x15_l0 + 1))), (), (someE hF).symm, ⟨rfl, rfl, rfl, rfl, rfl, rfl, trivial⟩, (hS.pick [] rfl rfl)⟩
      · skip
        refine AWP.skip ?_
        refine QBlock.nrm ?_
        refine QThen.nrm ?_
        refine AWP.lastR rfl ?_
        refine ASL.q (v := (.int .i64 (W (x15_l0 + 1)))) rfl rfl (Light.quiet (opInt rfl rfl rfl rfl)) ?_
        refine ASL.q (v := (.int .i64 (W (x15_l0 + 1)))) rfl rfl (Light.quiet (opMove rfl rfl)) ?_
        refine ASL.done ?_
        refine QThen.nrm ?_
        exact ⟨(x7_l0, (W (x15_l0 + 1))), (), (someE hF).symm, ⟨rfl, rfl, rfl, rfl, rfl, rfl, trivial⟩, (hS.pick [] rfl rfl)⟩
    · skip
      refine AWP.exit ?_
      refine QThen.ext ?_
      refine QThen.ext ?_
      refine QBlock.hit ?_
      obtain rfl := (hx3 _ (someE hF).symm)
      have hF := hR6
      refine QThen.nrm ?_
      exact ⟨x7_l0, ⟨rfl, trivial⟩, (hS.pick [] rfl rfl), hF⟩

set_option maxRecDepth 10000 in
theorem impl_rankNext_ok {p0 : TAuto} {p1 : TRankState} {p2 : Int} {r : (List TRankState)} (hF : impl_rankNext p0 p1 p2 = some r) : PO Try.prog 44 [(TAuto.av p0), (TRankState.av p1), (.int .i64 p2)] 2 (List.map TRankState.av r) := by
  refine HC.enter Try.func44 rfl Try.ntmps44 (by simp) ?_
  have hS := Sep.void; unfold impl_rankNext at hF
  refine AWP.seqR rfl ?_
  refine ASL.q (v := (.rptr [(.int .i64 p0.letters), (.int .i64 p0.states), (.int .i64 p0.start), (.list 4 (List.map TEdge.av p0.edges))])) rfl rfl ((qBoxI (v := (TAuto.av p0)) rfl rfl rfl rfl)) ?_
  refine ASL.q (v := (.rptr [(.list 1 (List.map (AV.int .i64) p1.ranks)), (.int .i64 p1.owing)])) rfl rfl ((qBoxI (v := (TRankState.av p1)) rfl rfl rfl rfl)) ?_
  have hS := hNil (s := 2) (f := TRankState.av) hS
  refine ASL.q (v := .nil) rfl rfl (Light.quiet (opAssign rfl rfl)) ?_
  refine ASL.done ?_
  refine AWP.seqR rfl ?_
  refine ASL.q (v := (.list 1 (List.map (fun xs : (List Int) => AV.list 1 (List.map (AV.int .i64) xs)) [[]]))) rfl rfl ((qLitNil (s := 1) rfl rfl elemA_85 sizeA_26 zeroA_26 rfl)) ?_
  refine ASL.q (v := (.list 1 (List.map (fun xs : (List Int) => AV.list 1 (List.map (AV.int .i64) xs)) [[]]))) rfl rfl (Light.quiet (opAssign rfl rfl)) ?_
  refine ASL.done ?_
  refine AWP.seqM (fun e H => ∃ x7_1 : (List (List Int)), E.Told e [(2, (.int .i64 p2)), (3, (.rptr [(.int .i64 p0.letters), (.int .i64 p0.states), (.int .i64 p0.start), (.list 4 (List.map TEdge.av p0.edges))])), (4, (.rptr [(.list 1 (List.map (AV.int .i64) p1.ranks)), (.int .i64 p1.owing)])), (7, (.list 1 (List.map (fun xs : (List Int) => AV.list 1 (List.map (AV.int .i64) xs)) x7_1)))] ∧ E.Sep H [] ∧ impl_rankNext.k0 p1 p0 p2 x7_1 = some r) ?_ ?_
  · rintro e0 G42 ⟨x7_1, hT, hS, hF⟩; refine AWP.only _ hT ?_; unfold impl_rankNext.k0 at hF
    refine AWP.seqR rfl ?_
    refine ASL.q (v := (.rptr [(.int .i64 p0.states), (.int .i64 p0.start), (.list 4 (List.map TEdge.av p0.edges))])) rfl rfl (Light.quiet (opFieldAddrR rfl fieldA_33_1 rfl rfl)) ?_
    refine ASL.q (v := (.int .i64 p0.states)) rfl rfl (Light.quiet (opLoadR rfl aggA_3 rfl rfl)) ?_
    refine ASL.q (v := (.int .i64 (impl_only p0.states))) rfl rfl ((qCall rfl rfl call_49 (impl_only_ok p0.states) rfl)) ?_
    refine ASL.q (v := (.int .i64 (W (((impl_only p0.states)) - 1)))) rfl rfl (Light.quiet (opInt rfl rfl rfl rfl)) ?_
    refine ASL.q (v := (.int .i64 (W (((impl_only p0.states)) - 1)))) rfl rfl (Light.quiet (opAssign rfl rfl)) ?_
    refine ASL.done ?_
    refine AWP.seqM (fun e H => ∃ x14_2 : Int, E.Told e [(7, (.list 1 (List.map (fun xs : (List Int) => AV.list 1 (List.map (AV.int .i64) xs)) x7_1))), (14, (.int .i64 x14_2))] ∧ E.Sep H [] ∧ impl_rankNext.k1 x7_1 x14_2 = some r) ?_ ?_
    · rintro e0 G40 ⟨x14_2, hT, hS, hF⟩; refine AWP.only _ hT ?_; unfold impl_rankNext.k1 at hF
      refine AWP.seqR rfl ?_
      have hS := hNil (s := 2) (f := TRankState.av) hS
      refine ASL.q (v := .nil) rfl rfl (Light.quiet (opAssign rfl rfl)) ?_
      refine ASL.done ?_
      refine AWP.seqM (fun e H => ∃ y3 : (List TRankState), ∃ w4 : AV, E.Told e [(15, w4)] ∧ E.Sep H [.row 2 w4 (List.map TRankState.av y3)] ∧ impl_rankNext.k2 y3 = some r) ?_ ?_
      · rintro e0 G6 ⟨y3, w4, hT, hS, hF⟩; refine AWP.only _ hT ?_; unfold impl_rankNext.k2 at hF
        refine AWP.seqR rfl ?_
        refine ASL.q (v := w4) rfl rfl (Light.quiet (opMove rfl rfl)) ?_
        refine ASL.q (v := w4) rfl rfl (Light.quiet (opAssign rfl rfl)) ?_
        refine ASL.done ?_
        refine AWP.ret ?_
        obtain rfl := someE hF
        exact QRet.sole (v := w4) ⟨rfl, trivial⟩ (hS.get (k := 0) rfl)
      · skip
        refine AWP.seqR rfl ?_
        refine ASL.q (v := (.list 1 (List.map (fun xs : (List Int) => AV.list 1 (List.map (AV.int .i64) xs)) x7_1))) rfl rfl (Light.quiet (opMove rfl rfl)) ?_
        refine ASL.q (v := (.int .i64 (x7_1.length : Int))) rfl rfl (Light.quiet (opLenMap (f := (fun xs : (List Int) => AV.list 1 (List.map (AV.int .i64) xs))) rfl rfl rfl lenT_85 rfl)) ?_
        refine ASL.q (v := (.int .i64 0)) rfl rfl (Light.quiet (opMove rfl rfl)) ?_
        refine ASL.done ?_
        refine AWP.block ?_
        obtain ⟨o13, hL12, hR14⟩ := bindE hF
        refine AWP.loopF (ω := AV) hL12 (fun s w => [(14, (.int .i64 x14_2)), (15, w), (66, (.list 1 (List.map (fun xs : (List Int) => AV.list 1 (List.map (AV.int .i64) xs)) x7_1))), (67, (.int .i64 (x7_1.length : Int))), (68, (.int .i64 s.2))]) (fun s w => [.row 2 w (List.map TRankState.av s.1)]) .nil ⟨rfl, rfl, rfl, rfl, rfl, trivial⟩ (hS.pick [0] rfl rfl) ?_
        rintro ⟨y7, x68_l0⟩ w8 G15 hS x10 hF hx11
        try dsimp only at hS ⊢
        have hF : impl_rankNext.b0 x7_1 x14_2 y7 x68_l0 = some x10 := hF; unfold impl_rankNext.b0 at hF
        refine AWP.seqR rfl ?_
        refine ASL.q (v := (.bool (decide (x68_l0 < ((x7_1.length : Int)))))) rfl rfl (Light.quiet (opInt rfl rfl rfl rfl)) ?_
        refine ASL.done ?_
        refine AWP.seq ?_
        refine AWP.ifP hF rfl (fun hc16 hF => ?_) (fun hc16 hF => ?_)
        · skip
          refine AWP.skip ?_
          refine QThen.nrm ?_
          refine AWP.seqM (fun e H => ∃ y17 : (List TRankState), ∃ w18 : AV, E.Told e [(14, (.int .i64 x14_2)), (15, w18), (66, (.list 1 (List.map (fun xs : (List Int) => AV.list 1 (List.map (AV.int .i64) xs)) x7_1))), (67, (.int .i64 (x7_1.length : Int))), (68, (.int .i64 x68_l0))] ∧ E.Sep H [.row 2 w18 (List.map TRankState.av y17)] ∧ impl_rankNext.k3 x68_l0 y17 = some x10) ?_ ?_
          · rintro e0 G20 ⟨y17, w18, hT, hS, hF⟩; refine AWP.only _ hT ?_; unfold impl_rankNext.k3 at hF
            refine AWP.lastR rfl ?_
            refine ASL.q (v := (.int .i64 (W (x68_l0 + 1)))) rfl rfl (Light.quiet (opInt rfl rfl rfl rfl)) ?_
            refine ASL.q (v := (.int .i64 (W (x68_l0 + 1)))) rfl rfl (Light.quiet (opMove rfl rfl)) ?_
            refine ASL.done ?_
            refine QThen.nrm ?_
            exact ⟨(y17, (W (x68_l0 + 1))), w18, (someE hF).symm, ⟨rfl, rfl, rfl, rfl, rfl, trivial⟩, (hS.pick [0] rfl rfl)⟩
          · skip
            refine AWP.block ?_
            refine AWP.seqR rfl ?_
            obtain ⟨a70, ha70, hF⟩ := bindE hF
            refine ASL.q (v := (.rptr [(.list 1 (List.map (AV.int .i64) a70))])) rfl rfl (Light.quiet (kIx (f := (fun xs : (List Int) => AV.list 1 (List.map (AV.int .i64) xs))) ha70 rfl rfl rfl elemA_85 sizeA_26 rfl)) ?_
            refine ASL.q (v := (.list 1 (List.map (AV.int .i64) a70))) rfl rfl (Light.quiet (opLoadR rfl aggA_26 rfl rfl)) ?_
            refine ASL.q (v := (.list 1 (List.map (AV.int .i64) a70))) rfl rfl (Light.quiet (opAssign rfl rfl)) ?_
            refine ASL.done ?_
            refine AWP.seqR rfl ?_
            refine ASL.q (v := (.list 1 (List.map (AV.int .i64) a70))) rfl rfl (Light.quiet (opMove rfl rfl)) ?_
            refine ASL.q (v := (.agg [(.list 1 (List.map (AV.int .i64) a70)), (.int .i64 0)])) rfl rfl (Light.quiet (opBuildZ (zs := [(.list 1 (List.map (AV.int .i64) [])), (.int .i64 0)]) rfl plan_28 zeroA_28 ⟨.inr ⟨_, rfl, rfl⟩, .inl rfl, trivial⟩ rfl)) ?_
            refine ASL.x rfl rfl (hNewZ hS [(.list 1 (List.map (AV.int .i64) [])), (.int .i64 0)] rfl zeroA_28 ⟨.inr ⟨_, rfl, rfl⟩, .inl rfl, trivial⟩ ?_); rintro b18 G21 hK hS
            refine ASL.n rfl rfl (hPutA hS (j := 0) rfl rfl sizeA_28 rfl rfl rfl rfl rfl (nlt rfl) ?_); rintro G23 hS
            refine ASL.done ?_
            refine AWP.seqM (fun e H => ∃ y24 : (List Int), ∃ y25 : Int, E.Told e [(14, (.int .i64 x14_2)), (15, w8), (18, (.ptr b18 0)), (66, (.list 1 (List.map (fun xs : (List Int) => AV.list 1 (List.map (AV.int .i64) xs)) x7_1))), (67, (.int .i64 (x7_1.length : Int))), (68, (.int .i64 x68_l0))] ∧ E.Sep H [.row 2 w8 (List.map TRankState.av y7), .cell b18 [(.list 1 (List.map (AV.int .i64) y24)), (.int .i64 y25)]] ∧ impl_rankNext.k4 y7 x68_l0 y24 y25 = some x10) ?_ ?_
            · rintro e0 G28 ⟨y24, y25, hT, hS, hF⟩; refine AWP.only _ hT ?_; unfold impl_rankNext.k4 at hF
              refine AWP.lastR rfl ?_
              refine ASL.q (v := w8) rfl rfl (Light.quiet (opMove rfl rfl)) ?_
              refine ASL.q (v := (.agg [(.list 1 (List.map (AV.int .i64) y24)), (.int .i64 y25)])) rfl rfl (Light.quiet (kAtA hS (j := 1) rfl rfl aggA_28 sizeA_28 rfl (nlt rfl) rfl)) ?_
              refine ASL.q (v := (.list 2 (List.map TRankState.av [(TRankState.mk y24 y25)]))) rfl rfl ((qLit (xs := [(.agg [(.list 1 (List.map (AV.int .i64) y24)), (.int .i64 y25)])]) rfl elemA_44 sizeA_28 zeroA_28 rfl rfl rfl rfl (by simp [cells, TRankState.av]) (nlt rfl))) ?_
              obtain ⟨z103, hz103, hF⟩ := bindE hF
              refine ASL.x rfl rfl (hApp (f := TRankState.av) (ws := [(TRankState.mk y24 y25)]) hS (j := 0) rfl hz103 rfl elemA_44 rfl sizeA_28 bytesA_28 zeroA_28 rfl rfl rfl (fun _ => rfl) ?_); rintro v103 G26 hS
              refine ASL.q (v := v103) rfl rfl (Light.quiet (opAssign rfl rfl)) ?_
              refine ASL.done ?_
              refine QBlock.nrm ?_
              refine QThen.nrm ?_
              exact ⟨z103, v103, ⟨rfl, rfl, rfl, rfl, rfl, trivial⟩, (hS.pick [0] rfl rfl), hF⟩
            · skip
              refine AWP.seqR rfl ?_
              refine ASL.q (v := (.list 1 (List.map (AV.int .i64) a70))) rfl rfl (Light.quiet (opMove rfl rfl)) ?_
              refine ASL.q (v := (.int .i64 (a70.length : Int))) rfl rfl (Light.quiet (opLenMap (f := (AV.int .i64)) rfl rfl rfl lenT_26 rfl)) ?_
              refine ASL.q (v := (.int .i64 0)) rfl rfl (Light.quiet (opMove rfl rfl)) ?_
              refine ASL.done ?_
              refine AWP.block ?_
              obtain ⟨o34, hL33, hR35⟩ := bindE hF
              refine AWP.loopF (ω := Unit) hL33 (fun s w => [(14, (.int .i64 x14_2)), (15, w8), (18, (.ptr b18 0)), (66, (.list 1 (List.map (fun xs : (List Int) => AV.list 1 (List.map (AV.int .i64) xs)) x7_1))), (67, (.int .i64 (x7_1.length : Int))), (68, (.int .i64 x68_l0)), (74, (.list 1 (List.map (AV.int .i64) a70))), (75, (.int .i64 (a70.length : Int))), (76, (.int .i64 s.2.2))]) (fun s w => [.row 2 w8 (List.map TRankState.av y7), .cell b18 [(.list 1 (List.map (AV.int .i64) s.1)), (.int .i64 s.2.1)]]) () ⟨rfl, rfl, rfl, rfl, rfl, rfl, rfl, rfl, rfl, trivial⟩ (hS.pick [1, 0] rfl rfl) ?_
              rintro ⟨y29, y30, x76_l1⟩ _ G36 hS x31 hF hx32
              try dsimp only at hS ⊢
              have hF : impl_rankNext.b1 a70 x14_2 y29 y30 x76_l1 = some x31 := hF; unfold impl_rankNext.b1 at hF
              refine AWP.seqR rfl ?_
              refine ASL.q (v := (.bool (decide (x76_l1 < ((a70.length : Int)))))) rfl rfl (Light.quiet (opInt rfl rfl rfl rfl)) ?_
              refine ASL.done ?_
              refine AWP.seq ?_
              refine AWP.ifP hF rfl (fun hc37 hF => ?_) (fun hc37 hF => ?_)
              · skip
                refine AWP.skip ?_
                refine QThen.nrm ?_
                refine AWP.seq ?_
                refine AWP.block ?_
                refine AWP.seqR rfl ?_
                refine ASL.q (v := (.int .i64 x76_l1)) rfl rfl (Light.quiet (opMove rfl rfl)) ?_
                obtain ⟨a79, ha79, hF⟩ := bindE hF
                refine ASL.q (v := (.rptr [(.int .i64 a79)])) rfl rfl (Light.quiet (kIx (f := (AV.int .i64)) ha79 rfl rfl rfl elemA_26 sizeA_3 rfl)) ?_
                refine ASL.q (v := (.int .i64 a79)) rfl rfl (Light.quiet (opLoadR rfl aggA_3 rfl rfl)) ?_
                refine ASL.q (v := (.int .i64 x76_l1)) rfl rfl (Light.quiet (opAssign rfl rfl)) ?_
                refine ASL.q (v := (.int .i64 a79)) rfl rfl (Light.quiet (opAssign rfl rfl)) ?_
                refine ASL.done ?_
                refine AWP.seqR rfl ?_
                refine ASL.q (v := (.int .i64 a79)) rfl rfl (Light.quiet (opMove rfl rfl)) ?_
                refine ASL.q (v := (.bool (decide (a79 ≥ 0)))) rfl rfl (Light.quiet (opInt rfl rfl rfl rfl)) ?_
                obtain ⟨c83, hc83, hF⟩ := bndE hF
                refine ASL.q (v := (.bool c83)) rfl rfl ((Quiet.cast (Light.quiet (opMove rfl rfl)) (congrArg AV.bool hc83.symm))) ?_
                refine ASL.g (v := (.int .i64 a79)) (.bool c83) true rfl (wT _) rfl (fun hG => by have q0 := hG; subst q0; exact Light.quiet (opMove rfl rfl)) ?_
                refine ASL.g (v := (.int .i64 (Int.tmod a79 2))) (.bool c83) true rfl (wT _) rfl (fun hG => by have q0 := hG; subst q0; exact Light.quiet (opRem rfl rfl rfl (by decide) rfl)) ?_
                refine ASL.g (v := (.bool (decide (((Int.tmod a79 2)) = 0)))) (.bool c83) true rfl (wT _) rfl (fun hG => by have q0 := hG; subst q0; exact Light.quiet (opInt rfl rfl rfl rfl)) ?_
                refine ASL.q (v := (.bool (c83 && (decide (((Int.tmod a79 2)) = 0))))) rfl rfl (Light.quiet (opPick (b := c83) rfl rfl (by cases c83 <;> rfl))) ?_
                obtain ⟨c88, hc88, hF⟩ := bndE hF
                refine ASL.q (v := (.bool c88)) rfl rfl ((Quiet.cast (Light.quiet (opMove rfl rfl)) (congrArg AV.bool hc88.symm))) ?_
                refine ASL.g (v := (.int .i64 x14_2)) (.bool c88) true rfl (wT _) rfl (fun hG => by have q0 := hG; subst q0; exact Light.quiet (opMove rfl rfl)) ?_
                refine ASL.g (v := (.int .i64 x76_l1)) (.bool c88) true rfl (wT _) rfl (fun hG => by have q0 := hG; subst q0; exact Light.quiet (opMove rfl rfl)) ?_
                refine ASL.g (v := (.bool (impl_has x14_2 x76_l1))) (.bool c88) true rfl (wT _) rfl (fun hG => by have q0 := hG; subst q0; exact (qCall rfl rfl call_50 (impl_has_ok x14_2 x76_l1) rfl)) ?_
                refine ASL.q (v := (.bool (c88 && (impl_has x14_2 x76_l1)))) rfl rfl (Light.quiet (opPick (b := c88) rfl rfl (by cases c88 <;> rfl))) ?_
                refine ASL.done ?_
                refine AWP.ifB hF rfl (fun hc38 hF => ?_) (fun hc38 hF => ?_)
                · skip
                  refine AWP.lastD [(0, false), (1, false), (2, false), (3, false), (4, false), (5, false), (6, true)] mixed (by kernel_rfl) rfl ?_
                  refine ARL.q0 (v := (.ptr b18 1)) rfl rfl (Light.quiet (opFieldAddr rfl fieldA_28_1 rfl rfl)) ?_
                  refine ARL.q (v := (.int .i64 y30)) rfl rfl (hS.aliveC (k := 1) rfl) (Light.quiet (kAt hS (j := 1) rfl rfl aggA_3 rfl rfl)) ?_
                  refine ARL.q0 (v := (.int .i64 x76_l1)) rfl rfl (Light.quiet (opMove rfl rfl)) ?_
                  refine ARL.q0 (v := (.int .i64 (impl_only x76_l1))) rfl rfl ((qCall rfl rfl call_49 (impl_only_ok x76_l1) rfl)) ?_
                  refine ARL.q0 (v := (.int .i64 (bOr .i64 y30 ((impl_only x76_l1))))) rfl rfl (Light.quiet (opInt rfl rfl rfl rfl)) ?_
                  refine ARL.q0 (v := (.ptr b18 1)) rfl rfl (Light.quiet (opFieldAddr rfl fieldA_28_1 rfl rfl)) ?_
                  refine ARL.n rfl rfl rfl rfl (hPut hS (j := 1) rfl rfl sizeA_3 rfl rfl rfl (nlt rfl) ?_); rintro G39 hS
                  refine ARL.done ?_
                  refine QBlock.nrm ?_
                  refine QThen.nrm ?_
                  refine AWP.lastR rfl ?_
                  refine ASL.q (v := (.int .i64 (W (x76_l1 + 1)))) rfl rfl (Light.quiet (opInt rfl rfl rfl rfl)) ?_
                  refine ASL.q (v := (.int .i64 (W (x76_l1 + 1)))) rfl rfl (Light.quiet (opMove rfl rfl)) ?_
                  refine ASL.done ?_
                  refine QThen.nrm ?_
                  exact ⟨(y29, (bOr .i64 y30 ((impl_only x76_l1))), (W (x76_l1 + 1))), (), (someE hF).symm, ⟨rfl, rfl, rfl, rfl, rfl, rfl, rfl, rfl, rfl, trivial⟩, (hS.pick [0, 1] rfl rfl)⟩
                · skip
                  refine AWP.skip ?_
                  refine QBlock.nrm ?_
                  refine QThen.nrm ?_
                  refine AWP.lastR rfl ?_
                  refine ASL.q (v := (.int .i64 (W (x76_l1 + 1)))) rfl rfl (Light.quiet (opInt rfl rfl rfl rfl)) ?_
                  refine ASL.q (v := (.int .i64 (W (x76_l1 + 1)))) rfl rfl (Light.quiet (opMove rfl rfl)) ?_
                  refine ASL.done ?_
                  refine QThen.nrm ?_
                  exact ⟨(y29, y30, (W (x76_l1 + 1))), (), (someE hF).symm, ⟨rfl, rfl, rfl, rfl, rfl, rfl, rfl, rfl, rfl, trivial⟩, (hS.pick [0, 1] rfl rfl)⟩
              · skip
                refine AWP.exit ?_
                refine QThen.ext ?_
                refine QThen.ext ?_
                refine QBlock.hit ?_
                obtain rfl := (hx32 _ (someE hF).symm)
                have hF := hR35
                refine QThen.nrm ?_
                exact ⟨y29, y30, ⟨rfl, rfl, rfl, rfl, rfl, rfl, trivial⟩, (hS.pick [0, 1] rfl rfl), hF⟩
        · skip
          refine AWP.exit ?_
          refine QThen.ext ?_
          refine QThen.ext ?_
          refine QBlock.hit ?_
          obtain rfl := (hx11 _ (someE hF).symm)
          have hF := hR14
          refine QThen.nrm ?_
          exact ⟨y7, w8, ⟨rfl, trivial⟩, (hS.pick [0] rfl rfl), hF⟩
    · skip
      refine AWP.seqR rfl ?_
      refine ASL.q (v := (.rptr [(.int .i64 p1.owing)])) rfl rfl (Light.quiet (opFieldAddrR rfl fieldA_28_1 rfl rfl)) ?_
      refine ASL.q (v := (.int .i64 p1.owing)) rfl rfl (Light.quiet (opLoadR rfl aggA_3 rfl rfl)) ?_
      refine ASL.q (v := (.bool (decide (p1.owing ≠ 0)))) rfl rfl (Light.quiet (opInt rfl rfl rfl rfl)) ?_
      refine ASL.done ?_
      refine AWP.ifP hF rfl (fun hc41 hF => ?_) (fun hc41 hF => ?_)
      · skip
        refine AWP.lastR rfl ?_
        refine ASL.q (v := (.rptr [(.int .i64 p1.owing)])) rfl rfl (Light.quiet (opFieldAddrR rfl fieldA_28_1 rfl rfl)) ?_
        refine ASL.q (v := (.int .i64 p1.owing)) rfl rfl (Light.quiet (opLoadR rfl aggA_3 rfl rfl)) ?_
        refine ASL.q (v := (.int .i64 p2)) rfl rfl (Light.quiet (opMove rfl rfl)) ?_
        obtain ⟨a65, ha65, hF⟩ := bindE hF
        refine ASL.q (v := (.int .i64 a65)) rfl rfl ((qCall rfl rfl call_65 (impl_Auto_step_ok ha65) rfl)) ?_
        refine ASL.q (v := (.int .i64 a65)) rfl rfl (Light.quiet (opAssign rfl rfl)) ?_
        refine ASL.done ?_
        refine QThen.nrm ?_
        exact ⟨a65, ⟨rfl, rfl, trivial⟩, (hS.pick [] rfl rfl), hF⟩
      · skip
        refine AWP.skip ?_
        refine QThen.nrm ?_
        exact ⟨(W (((impl_only p0.states)) - 1)), ⟨rfl, rfl, trivial⟩, (hS.pick [] rfl rfl), hF⟩
  · skip
    refine AWP.seqR rfl ?_
    refine ASL.q (v := (TAuto.av p0)) rfl rfl (Light.quiet (opLoadRA rfl aggA_33 sizeA_33 rfl (nlt rfl) rfl)) ?_
    refine ASL.q (v := (TRankState.av p1)) rfl rfl (Light.quiet (opLoadRA rfl aggA_28 sizeA_28 rfl (nlt rfl) rfl)) ?_
    refine ASL.q (v := (.int .i64 p2)) rfl rfl (Light.quiet (opMove rfl rfl)) ?_
    obtain ⟨a25, ha25, hF⟩ := bindE hF
    refine ASL.q (v := (.list 1 (List.map (AV.int .i64) a25))) rfl rfl ((qCall rfl rfl call_63 (PO.list (impl_bounds_ok ha25)) rfl)) ?_
    refine ASL.q (v := (.int .i64 (a25.length : Int))) rfl rfl (Light.quiet (opLenMap (f := (AV.int .i64)) rfl rfl rfl lenT_26 rfl)) ?_
    refine ASL.q (v := (.int .i64 0)) rfl rfl (Light.quiet (opMove rfl rfl)) ?_
    refine ASL.done ?_
    refine AWP.block ?_
    obtain ⟨o46, hL45, hR47⟩ := bindE hF
    refine AWP.loopF (ω := Unit) hL45 (fun s w => [(2, (.int .i64 p2)), (3, (.rptr [(.int .i64 p0.letters), (.int .i64 p0.states), (.int .i64 p0.start), (.list 4 (List.map TEdge.av p0.edges))])), (4, (.rptr [(.list 1 (List.map (AV.int .i64) p1.ranks)), (.int .i64 p1.owing)])), (7, (.list 1 (List.map (fun xs : (List Int) => AV.list 1 (List.map (AV.int .i64) xs)) s.1))), (25, (.list 1 (List.map (AV.int .i64) a25))), (26, (.int .i64 (a25.length : Int))), (27, (.int .i64 s.2))]) (fun s w => []) () ⟨rfl, rfl, rfl, rfl, rfl, rfl, rfl, trivial⟩ (hS.pick [] rfl rfl) ?_
    rintro ⟨x7_l2, x27_l2⟩ _ G48 hS x43 hF hx44
    try dsimp only at hS ⊢
    have hF : impl_rankNext.b2 a25 x7_l2 x27_l2 = some x43 := hF; unfold impl_rankNext.b2 at hF
    refine AWP.seqR rfl ?_
    refine ASL.q (v := (.bool (decide (x27_l2 < ((a25.length : Int)))))) rfl rfl (Light.quiet (opInt rfl rfl rfl rfl)) ?_
    refine ASL.done ?_
    refine AWP.seq ?_
    refine AWP.ifP hF rfl (fun hc49 hF => ?_) (fun hc49 hF => ?_)
    · skip
      refine AWP.skip ?_
      refine QThen.nrm ?_
      refine AWP.seqM (fun e H => ∃ x7_6 : (List (List Int)), E.Told e [(2, (.int .i64 p2)), (3, (.rptr [(.int .i64 p0.letters), (.int .i64 p0.states), (.int .i64 p0.start), (.list 4 (List.map TEdge.av p0.edges))])), (4, (.rptr [(.list 1 (List.map (AV.int .i64) p1.ranks)), (.int .i64 p1.owing)])), (7, (.list 1 (List.map (fun xs : (List Int) => AV.list 1 (List.map (AV.int .i64) xs)) x7_6))), (25, (.list 1 (List.map (AV.int .i64) a25))), (26, (.int .i64 (a25.length : Int))), (27, (.int .i64 x27_l2))] ∧ E.Sep H [] ∧ impl_rankNext.k5 x27_l2 x7_6 = some x43) ?_ ?_
      · rintro e0 G50 ⟨x7_6, hT, hS, hF⟩; refine AWP.only _ hT ?_; unfold impl_rankNext.k5 at hF
        refine AWP.lastR rfl ?_
        refine ASL.q (v := (.int .i64 (W (x27_l2 + 1)))) rfl rfl (Light.quiet (opInt rfl rfl rfl rfl)) ?_
        refine ASL.q (v := (.int .i64 (W (x27_l2 + 1)))) rfl rfl (Light.quiet (opMove rfl rfl)) ?_
        refine ASL.done ?_
        refine QThen.nrm ?_
        exact ⟨(x7_6, (W (x27_l2 + 1))), (), (someE hF).symm, ⟨rfl, rfl, rfl, rfl, rfl, rfl, rfl, trivial⟩, (hS.pick [] rfl rfl)⟩
      · skip
        refine AWP.block ?_
        refine AWP.seqR rfl ?_
        obtain ⟨a29, ha29, hF⟩ := bindE hF
        refine ASL.q (v := (.rptr [(.int .i64 a29)])) rfl rfl (Light.quiet (kIx (f := (AV.int .i64)) ha29 rfl rfl rfl elemA_26 sizeA_3 rfl)) ?_
        refine ASL.q (v := (.int .i64 a29)) rfl rfl (Light.quiet (opLoadR rfl aggA_3 rfl rfl)) ?_
        refine ASL.q (v := (.int .i64 a29)) rfl rfl (Light.quiet (opAssign rfl rfl)) ?_
        refine ASL.done ?_
        refine AWP.seqR rfl ?_
        have hS := hNil (s := 1) (f := (fun xs : (List Int) => AV.list 1 (List.map (AV.int .i64) xs))) hS
        refine ASL.q (v := .nil) rfl rfl (Light.quiet (opAssign rfl rfl)) ?_
        refine ASL.done ?_
        refine AWP.seqM (fun e H => ∃ y52 : (List (List Int)), ∃ w53 : AV, E.Told e [(2, (.int .i64 p2)), (3, (.rptr [(.int .i64 p0.letters), (.int .i64 p0.states), (.int .i64 p0.start), (.list 4 (List.map TEdge.av p0.edges))])), (4, (.rptr [(.list 1 (List.map (AV.int .i64) p1.ranks)), (.int .i64 p1.owing)])), (10, w53), (25, (.list 1 (List.map (AV.int .i64) a25))), (26, (.int .i64 (a25.length : Int))), (27, (.int .i64 x27_l2))] ∧ E.Sep H [.row 1 w53 (List.map (fun xs : (List Int) => AV.list 1 (List.map (AV.int .i64) xs)) y52)] ∧ impl_rankNext.k6 x27_l2 y52 = some x43) ?_ ?_
        · rintro e0 G56 ⟨y52, w53, hT, hS, hF⟩; refine AWP.only _ hT ?_; unfold impl_rankNext.k6 at hF
          refine AWP.frz (L' := []) hS (k := 0) rfl [(2, (.int .i64 p2)), (3, (.rptr [(.int .i64 p0.letters), (.int .i64 p0.states), (.int .i64 p0.start), (.list 4 (List.map TEdge.av p0.edges))])), (4, (.rptr [(.list 1 (List.map (AV.int .i64) p1.ranks)), (.int .i64 p1.owing)])), (10, (.list 1 (List.map (fun xs : (List Int) => AV.list 1 (List.map (AV.int .i64) xs)) y52))), (25, (.list 1 (List.map (AV.int .i64) a25))), (26, (.int .i64 (a25.length : Int))), (27, (.int .i64 x27_l2))] ⟨.inl rfl, .inl rfl, .inl rfl, .inr (.inl ⟨rfl, rfl⟩), .inl rfl, .inl rfl, .inl rfl, trivial⟩ trivial (fun G55 hS => ?_)
          refine AWP.lastR rfl ?_
          refine ASL.q (v := (.list 1 (List.map (fun xs : (List Int) => AV.list 1 (List.map (AV.int .i64) xs)) y52))) rfl rfl (Light.quiet (opMove rfl rfl)) ?_
          refine ASL.q (v := (.list 1 (List.map (fun xs : (List Int) => AV.list 1 (List.map (AV.int .i64) xs)) y52))) rfl rfl (Light.quiet (opAssign rfl rfl)) ?_
          refine ASL.done ?_
          refine QBlock.nrm ?_
          refine QThen.nrm ?_
          exact ⟨y52, ⟨rfl, rfl, rfl, rfl, rfl, rfl, rfl, trivial⟩, (hS.pick [] rfl rfl), hF⟩
        · skip
          refine AWP.seqR rfl ?_
          refine ASL.q (v := (.list 1 (List.map (fun xs : (List Int) => AV.list 1 (List.map (AV.int .i64) xs)) x7_l2))) rfl rfl (Light.quiet (opMove rfl rfl)) ?_
          refine ASL.q (v := (.int .i64 (x7_l2.length : Int))) rfl rfl (Light.quiet (opLenMap (f := (fun xs : (List Int) => AV.list 1 (List.map (AV.int .i64) xs))) rfl rfl rfl lenT_85 rfl)) ?_
          refine ASL.q (v := (.int .i64 0)) rfl rfl (Light.quiet (opMove rfl rfl)) ?_
          refine ASL.done ?_
          refine AWP.block ?_
          obtain ⟨o63, hL62, hR64⟩ := bindE hF
          refine AWP.loopF (ω := AV) hL62 (fun s w => [(2, (.int .i64 p2)), (3, (.rptr [(.int .i64 p0.letters), (.int .i64 p0.states), (.int .i64 p0.start), (.list 4 (List.map TEdge.av p0.edges))])), (4, (.rptr [(.list 1 (List.map (AV.int .i64) p1.ranks)), (.int .i64 p1.owing)])), (9, (.int .i64 a29)), (10, w), (25, (.list 1 (List.map (AV.int .i64) a25))), (26, (.int .i64 (a25.length : Int))), (27, (.int .i64 x27_l2)), (31, (.list 1 (List.map (fun xs : (List Int) => AV.list 1 (List.map (AV.int .i64) xs)) x7_l2))), (32, (.int .i64 (x7_l2.length : Int))), (33, (.int .i64 s.2))]) (fun s w => [.row 1 w (List.map (fun xs : (List Int) => AV.list 1 (List.map (AV.int .i64) xs)) s.1)]) .nil ⟨rfl, rfl, rfl, rfl, rfl, rfl, rfl, rfl, rfl, rfl, rfl, trivial⟩ (hS.pick [0] rfl rfl) ?_
          rintro ⟨y57, x33_l3⟩ w58 G65 hS x60 hF hx61
          try dsimp only at hS ⊢
          have hF : impl_rankNext.b3 x7_l2 a29 y57 x33_l3 = some x60 := hF; unfold impl_rankNext.b3 at hF
          refine AWP.seqR rfl ?_
          refine ASL.q (v := (.bool (decide (x33_l3 < ((x7_l2.length : Int)))))) rfl rfl (Light.quiet (opInt rfl rfl rfl rfl)) ?_
          refine ASL.done ?_
          refine AWP.seq ?_
          refine AWP.ifP hF rfl (fun hc66 hF => ?_) (fun hc66 hF => ?_)
          · skip
            refine AWP.skip ?_
            refine QThen.nrm ?_
            refine AWP.seqM (fun e H => ∃ y67 : (List (List Int)), ∃ w68 : AV, E.Told e [(2, (.int .i64 p2)), (3, (.rptr [(.int .i64 p0.letters), (.int .i64 p0.states), (.int .i64 p0.start), (.list 4 (List.map TEdge.av p0.edges))])), (4, (.rptr [(.list 1 (List.map (AV.int .i64) p1.ranks)), (.int .i64 p1.owing)])), (9, (.int .i64 a29)), (10, w68), (25, (.list 1 (List.map (AV.int .i64) a25))), (26, (.int .i64 (a25.length : Int))), (27, (.int .i64 x27_l2)), (31, (.list 1 (List.map (fun xs : (List Int) => AV.list 1 (List.map (AV.int .i64) xs)) x7_l2))), (32, (.int .i64 (x7_l2.length : Int))), (33, (.int .i64 x33_l3))] ∧ E.Sep H [.row 1 w68 (List.map (fun xs : (List Int) => AV.list 1 (List.map (AV.int .i64) xs)) y67)] ∧ impl_rankNext.k7 x33_l3 y67 = some x60) ?_ ?_
            · rintro e0 G70 ⟨y67, w68, hT, hS, hF⟩; refine AWP.only _ hT ?_; unfold impl_rankNext.k7 at hF
              refine AWP.lastR rfl ?_
              refine ASL.q (v := (.int .i64 (W (x33_l3 + 1)))) rfl rfl (Light.quiet (opInt rfl rfl rfl rfl)) ?_
              refine ASL.q (v := (.int .i64 (W (x33_l3 + 1)))) rfl rfl (Light.quiet (opMove rfl rfl)) ?_
              refine ASL.done ?_
              refine QThen.nrm ?_
              exact ⟨(y67, (W (x33_l3 + 1))), w68, (someE hF).symm, ⟨rfl, rfl, rfl, rfl, rfl, rfl, rfl, rfl, rfl, rfl, rfl, trivial⟩, (hS.pick [0] rfl rfl)⟩
            · skip
              refine AWP.block ?_
              refine AWP.seqR rfl ?_
              obtain ⟨a35, ha35, hF⟩ := bindE hF
              refine ASL.q (v := (.rptr [(.list 1 (List.map (AV.int .i64) a35))])) rfl rfl (Light.quiet (kIx (f := (fun xs : (List Int) => AV.list 1 (List.map (AV.int .i64) xs))) ha35 rfl rfl rfl elemA_85 sizeA_26 rfl)) ?_
              refine ASL.q (v := (.list 1 (List.map (AV.int .i64) a35))) rfl rfl (Light.quiet (opLoadR rfl aggA_26 rfl rfl)) ?_
              refine ASL.q (v := (.list 1 (List.map (AV.int .i64) a35))) rfl rfl (Light.quiet (opAssign rfl rfl)) ?_
              refine ASL.done ?_
              refine AWP.seqR rfl ?_
              refine ASL.q (v := (.int .i64 a29)) rfl rfl (Light.quiet (opMove rfl rfl)) ?_
              refine ASL.q (v := (.int .i64 (mn a29 0))) rfl rfl (Light.quiet (opMin (ns := [a29, 0]) rfl rfl rfl rfl)) ?_
              refine ASL.q (v := (.int .i64 (mn a29 0))) rfl rfl (Light.quiet (opAssign rfl rfl)) ?_
              refine ASL.done ?_
              refine AWP.block ?_
              obtain ⟨o77, hL76, hR78⟩ := bindE hF
              refine AWP.loopF (ω := AV) hL76 (fun s w => [(2, (.int .i64 p2)), (3, (.rptr [(.int .i64 p0.letters), (.int .i64 p0.states), (.int .i64 p0.start), (.list 4 (List.map TEdge.av p0.edges))])), (4, (.rptr [(.list 1 (List.map (AV.int .i64) p1.ranks)), (.int .i64 p1.owing)])), (9, (.int .i64 a29)), (10, w), (12, (.list 1 (List.map (AV.int .i64) a35))), (13, (.int .i64 s.2)), (25, (.list 1 (List.map (AV.int .i64) a25))), (26, (.int .i64 (a25.length : Int))), (27, (.int .i64 x27_l2)), (31, (.list 1 (List.map (fun xs : (List Int) => AV.list 1 (List.map (AV.int .i64) xs)) x7_l2))), (32, (.int .i64 (x7_l2.length : Int))), (33, (.int .i64 x33_l3))]) (fun s w => [.row 1 w (List.map (fun xs : (List Int) => AV.list 1 (List.map (AV.int .i64) xs)) s.1)]) w58 ⟨rfl, rfl, rfl, rfl, rfl, rfl, rfl, rfl, rfl, rfl, rfl, rfl, rfl, trivial⟩ (hS.pick [0] rfl rfl) ?_
              rintro ⟨y71, x13_l4⟩ w72 G79 hS x74 hF hx75
              try dsimp only at hS ⊢
              have hF : impl_rankNext.b4 a29 a35 y71 x13_l4 = some x74 := hF; unfold impl_rankNext.b4 at hF
              refine AWP.seq ?_
              refine AWP.seqR rfl ?_
              refine ASL.q (v := (.int .i64 x13_l4)) rfl rfl (Light.quiet (opMove rfl rfl)) ?_
              refine ASL.q (v := (.int .i64 a29)) rfl rfl (Light.quiet (opMove rfl rfl)) ?_
              refine ASL.q (v := (.bool (decide (x13_l4 ≤ a29)))) rfl rfl (Light.quiet (opInt rfl rfl rfl rfl)) ?_
              refine ASL.done ?_
              refine AWP.ifP hF rfl (fun hc80 hF => ?_) (fun hc80 hF => ?_)
              · skip
                refine AWP.skip ?_
                refine QThen.nrm ?_
                refine AWP.seq ?_
                refine AWP.block ?_
                refine AWP.lastR rfl ?_
                refine ASL.q (v := w72) rfl rfl (Light.quiet (opMove rfl rfl)) ?_
                refine ASL.q (v := (.list 1 (List.map (AV.int .i64) a35))) rfl rfl (Light.quiet (opMove rfl rfl)) ?_
                obtain ⟨a46, ha46, hF⟩ := bindE hF
                refine ASL.x rfl rfl (hCallO hS rfl rfl call_64 (slices_Clone_int_int_ok ha46) rfl ?_); rintro v46 G81 hK hS
                refine ASL.q (v := (.int .i64 x13_l4)) rfl rfl (Light.quiet (opMove rfl rfl)) ?_
                refine ASL.q (v := (.list 1 (List.map (AV.int .i64) [x13_l4]))) rfl rfl ((qLit (xs := [(.int .i64 x13_l4)]) rfl elemA_26 sizeA_3 zeroA_3 rfl rfl rfl rfl (by simp [cells]) (nlt rfl))) ?_
                obtain ⟨z49, hz49, hF⟩ := bindE hF
                refine ASL.x rfl rfl (hAppF (f := (AV.int .i64)) (ws := [x13_l4]) hS (j := 0) rfl hz49 rfl elemA_26 rfl sizeA_3 bytesA_3 zeroA_3 rfl rfl rfl (fun _ => rfl) ?_); rintro G83 hB hS
                have hS : Sep G83 [.row 1 w72 (List.map (fun xs : (List Int) => AV.list 1 (List.map (AV.int .i64) xs)) y71)] := hS
                refine ASL.q (v := (.list 1 (List.map (fun xs : (List Int) => AV.list 1 (List.map (AV.int .i64) xs)) [z49]))) rfl rfl ((qLit (xs := [(.list 1 (List.map (AV.int .i64) z49))]) rfl elemA_85 sizeA_26 zeroA_26 rfl rfl rfl rfl (by simp [cells]) (nlt rfl))) ?_
                obtain ⟨z51, hz51, hF⟩ := bindE hF
                refine ASL.x rfl rfl (hApp (f := (fun xs : (List Int) => AV.list 1 (List.map (AV.int .i64) xs))) (ws := [z49]) hS (j := 0) rfl hz51 rfl elemA_85 rfl sizeA_26 bytesA_26 zeroA_26 rfl rfl rfl (fun _ => rfl) ?_); rintro v51 G84 hS
                refine ASL.q (v := v51) rfl rfl (Light.quiet (opAssign rfl rfl)) ?_
                refine ASL.done ?_
                refine QBlock.nrm ?_
                refine QThen.nrm ?_
                refine AWP.lastR rfl ?_
                refine ASL.q (v := (.int .i64 x13_l4)) rfl rfl (Light.quiet (opMove rfl rfl)) ?_
                refine ASL.q (v := (.int .i64 (W (x13_l4 + 1)))) rfl rfl (Light.quiet (opInt rfl rfl rfl rfl)) ?_
                refine ASL.q (v := (.int .i64 (W (x13_l4 + 1)))) rfl rfl (Light.quiet (opAssign rfl rfl)) ?_
                refine ASL.done ?_
                refine QThen.nrm ?_
                exact ⟨(z51, (W (x13_l4 + 1))), v51, (someE hF).symm, ⟨rfl, rfl, rfl, rfl, rfl, rfl, rfl, rfl, rfl, rfl, rfl, rfl, rfl, trivial⟩, (hS.pick [0] rfl rfl)⟩
              · skip
                refine AWP.exit ?_
                refine QThen.ext ?_
                refine QThen.ext ?_
                refine QBlock.hit ?_
                obtain rfl := (hx75 _ (someE hF).symm)
                have hF := hR78
                refine QBlock.nrm ?_
                refine QThen.nrm ?_
                exact ⟨y71, w72, ⟨rfl, rfl, rfl, rfl, rfl, rfl, rfl, rfl, rfl, rfl, rfl, trivial⟩, (hS.pick [0] rfl rfl), hF⟩
          · skip
            refine AWP.exit ?_
            refine QThen.ext ?_
            refine QThen.ext ?_
            refine QBlock.hit ?_
            obtain rfl := (hx61 _ (someE hF).symm)
            have hF := hR64
            refine QThen.nrm ?_
            exact ⟨y57, w58, ⟨rfl, rfl, rfl, rfl, rfl, rfl, rfl, trivial⟩, (hS.pick [0] rfl rfl), hF⟩
    · skip
      refine AWP.exit ?_
      refine QThen.ext ?_
      refine QThen.ext ?_
      refine QBlock.hit ?_
      obtain rfl := (hx44 _ (someE hF).symm)
      have hF := hR47
      refine QThen.nrm ?_
      exact ⟨x7_l2, ⟨rfl, rfl, rfl, rfl, trivial⟩, (hS.pick [] rfl rfl), hF⟩

set_option maxRecDepth 10000 in
theorem impl_RankNext_ok {p0 : TAuto} {p1 : TRankState} {p2 : Int} {r : (List TRankState)} (hF : impl_RankNext p0 p1 p2 = some r) : PO Try.prog 17 [(TAuto.av p0), (TRankState.av p1), (.int .i64 p2)] 2 (List.map TRankState.av r) := by
  refine HC.enter Try.func17 rfl Try.ntmps17 (by simp) ?_
  have hS := Sep.void; unfold impl_RankNext at hF
  refine AWP.seqR rfl ?_
  refine ASL.q (v := (.rptr [(.int .i64 p0.letters), (.int .i64 p0.states), (.int .i64 p0.start), (.list 4 (List.map TEdge.av p0.edges))])) rfl rfl ((qBoxI (v := (TAuto.av p0)) rfl rfl rfl rfl)) ?_
  refine ASL.q (v := (.rptr [(.list 1 (List.map (AV.int .i64) p1.ranks)), (.int .i64 p1.owing)])) rfl rfl ((qBoxI (v := (TRankState.av p1)) rfl rfl rfl rfl)) ?_
  have hS := hNil (s := 2) (f := TRankState.av) hS
  refine ASL.q (v := .nil) rfl rfl (Light.quiet (opAssign rfl rfl)) ?_
  refine ASL.done ?_
  refine AWP.seq ?_
  refine AWP.seqR rfl ?_
  refine ASL.q (v := (TAuto.av p0)) rfl rfl (Light.quiet (opLoadRA rfl aggA_33 sizeA_33 rfl (nlt rfl) rfl)) ?_
  refine ASL.q (v := (TRankState.av p1)) rfl rfl (Light.quiet (opLoadRA rfl aggA_28 sizeA_28 rfl (nlt rfl) rfl)) ?_
  obtain ⟨a9, ha9, hF⟩ := bindE hF
  refine ASL.q (v := (.bool a9)) rfl rfl ((qCall rfl rfl call_20 (impl_RankOk_ok ha9) rfl)) ?_
  refine ASL.q (v := (.bool (!a9))) rfl rfl (Light.quiet (opNot rfl rfl)) ?_
  obtain ⟨c11, hc11, hF⟩ := bndE hF
  refine ASL.q (v := (.bool c11)) rfl rfl ((Quiet.cast (Light.quiet (opMove rfl rfl)) (congrArg AV.bool hc11.symm))) ?_
  refine ASL.g (v := (.int .i64 p2)) (.bool c11) false rfl (wF _) rfl (fun hG => by have q0 := gN hG; subst q0; exact Light.quiet (opMove rfl rfl)) ?_
  refine ASL.g (v := (.rptr [(.int .i64 p0.letters), (.int .i64 p0.states), (.int .i64 p0.start), (.list 4 (List.map TEdge.av p0.edges))])) (.bool c11) false rfl (wF _) rfl (fun hG => by have q0 := gN hG; subst q0; exact Light.quiet (opFieldAddrR rfl fieldA_33_0 rfl rfl)) ?_
  refine ASL.g (v := (.int .i64 p0.letters)) (.bool c11) false rfl (wF _) rfl (fun hG => by have q0 := gN hG; subst q0; exact Light.quiet (opLoadR rfl aggA_3 rfl rfl)) ?_
  refine ASL.g (v := (.int .i64 (W (p0.letters - 1)))) (.bool c11) false rfl (wF _) rfl (fun hG => by have q0 := gN hG; subst q0; exact Light.quiet (opInt rfl rfl rfl rfl)) ?_
  refine ASL.g (v := (.bool (impl_inRange p2 0 ((W (p0.letters - 1)))))) (.bool c11) false rfl (wF _) rfl (fun hG => by have q0 := gN hG; subst q0; exact (qCall rfl rfl call_43 (impl_inRange_ok p2 0 ((W (p0.letters - 1)))) rfl)) ?_
  refine ASL.g (v := (.bool (!(impl_inRange p2 0 ((W (p0.letters - 1))))))) (.bool c11) false rfl (wF _) rfl (fun hG => by have q0 := gN hG; subst q0; exact Light.quiet (opNot rfl rfl)) ?_
  refine ASL.q (v := (.bool (c11 || (!(impl_inRange p2 0 ((W (p0.letters - 1)))))))) rfl rfl (Light.quiet (opPick (b := c11) rfl rfl (by cases c11 <;> rfl))) ?_
  refine ASL.done ?_
  refine AWP.ifB hF rfl (fun hc2 hF => ?_) (fun hc2 hF => ?_)
  · skip
    refine AWP.seqR rfl ?_
    have hS := hNil (s := 2) (f := TRankState.av) hS
    refine ASL.q (v := .nil) rfl rfl (Light.quiet (opAssign rfl rfl)) ?_
    refine ASL.done ?_
    refine AWP.ret ?_
    refine QThen.rt ?_
    obtain rfl := someE hF
    exact QRet.sole (v := .nil) ⟨rfl, trivial⟩ (hS.get (k := 0) rfl)
  · skip
    refine AWP.skip ?_
    refine QThen.nrm ?_
    refine AWP.seqR rfl ?_
    refine ASL.q (v := (TAuto.av p0)) rfl rfl (Light.quiet (opLoadRA rfl aggA_33 sizeA_33 rfl (nlt rfl) rfl)) ?_
    refine ASL.q (v := (TRankState.av p1)) rfl rfl (Light.quiet (opLoadRA rfl aggA_28 sizeA_28 rfl (nlt rfl) rfl)) ?_
    refine ASL.q (v := (.int .i64 p2)) rfl rfl (Light.quiet (opMove rfl rfl)) ?_
    obtain ⟨a22, ha22, hF⟩ := bindE hF
    refine ASL.x rfl rfl (hCallO hS rfl rfl call_44 (impl_rankNext_ok ha22) rfl ?_); rintro v22 G4 hK hS
    refine ASL.q (v := v22) rfl rfl (Light.quiet (opAssign rfl rfl)) ?_
    refine ASL.done ?_
    refine AWP.ret ?_
    obtain rfl := someE hF
    exact QRet.sole (v := v22) ⟨rfl, trivial⟩ (hS.get (k := 0) rfl)

set_option maxRecDepth 10000 in
theorem laws_sameInts_ok {p0 : (List Int)} {p1 : (List Int)} {r : Bool} (hF : laws_sameInts p0 p1 = some r) : PC Try.prog 21 [(.list 1 (List.map (AV.int .i64) p0)), (.list 1 (List.map (AV.int .i64) p1))] fun v => v = (.bool r) := by
  refine PC.enter Try.func21 rfl Try.ntmps21 (by simp) ?_
  have hS := Sep.void; unfold laws_sameInts at hF
  refine AWP.seqR rfl ?_
  refine ASL.q (v := (.bool false)) rfl rfl (Light.quiet (opAssign rfl rfl)) ?_
  refine ASL.done ?_
  refine AWP.seq ?_
  refine AWP.seqR rfl ?_
  refine ASL.q (v := (.list 1 (List.map (AV.int .i64) p0))) rfl rfl (Light.quiet (opMove rfl rfl)) ?_
  refine ASL.q (v := (.int .i64 (p0.length : Int))) rfl rfl (Light.quiet (opLenMap (f := (AV.int .i64)) rfl rfl rfl lenT_26 rfl)) ?_
  refine ASL.q (v := (.list 1 (List.map (AV.int .i64) p1))) rfl rfl (Light.quiet (opMove rfl rfl)) ?_
  refine ASL.q (v := (.int .i64 (p1.length : Int))) rfl rfl (Light.quiet (opLenMap (f := (AV.int .i64)) rfl rfl rfl lenT_26 rfl)) ?_
  refine ASL.q (v := (.bool (decide (((p0.length : Int)) ≠ ((p1.length : Int)))))) rfl rfl (Light.quiet (opInt rfl rfl rfl rfl)) ?_
  refine ASL.done ?_
  refine AWP.ifP hF rfl (fun hc1 hF => ?_) (fun hc1 hF => ?_)
  · skip
    refine AWP.seqR rfl ?_
    refine ASL.q (v := (.bool false)) rfl rfl (Light.quiet (opAssign rfl rfl)) ?_
    refine ASL.done ?_
    refine AWP.ret ?_
    refine QThen.rt ?_
    obtain rfl := someE hF
    exact QRet.sole (v := (.bool false)) ⟨rfl, trivial⟩ rfl
  · skip
    refine AWP.skip ?_
    refine QThen.nrm ?_
    refine AWP.seqM (fun e H => E.Told e [] ∧ E.Sep H [] ∧ laws_sameInts.k0 = some r) ?_ ?_
    · rintro e0 G2 ⟨hT, hS, hF⟩; refine AWP.only _ hT ?_; unfold laws_sameInts.k0 at hF
      refine AWP.seqR rfl ?_
      refine ASL.q (v := (.bool true)) rfl rfl (Light.quiet (opAssign rfl rfl)) ?_
      refine ASL.done ?_
      refine AWP.ret ?_
      obtain rfl := someE hF
      exact QRet.sole (v := (.bool true)) ⟨rfl, trivial⟩ rfl
    · skip
      refine AWP.seqR rfl ?_
      refine ASL.q (v := (.int .i64 0)) rfl rfl (Light.quiet (opAssign rfl rfl)) ?_
      refine ASL.done ?_
      refine AWP.block ?_
      obtain ⟨o6, hL5, hR7⟩ := bindE hF
      refine AWP.loopF (ω := Unit) hL5 (fun s w => [(0, (.list 1 (List.map (AV.int .i64) p0))), (1, (.list 1 (List.map (AV.int .i64) p1))), (5, (.int .i64 s))]) (fun s w => []) () ⟨rfl, rfl, rfl, trivial⟩ (hS.pick [] rfl rfl) ?_
      rintro x5_l0 _ G8 hS x3 hF hx4
      try dsimp only at hS ⊢
      have hF : laws_sameInts.b0 p0 p1 x5_l0 = some x3 := hF; unfold laws_sameInts.b0 at hF
      refine AWP.seq ?_
      refine AWP.seqR rfl ?_
      refine ASL.q (v := (.int .i64 x5_l0)) rfl rfl (Light.quiet (opMove rfl rfl)) ?_
      refine ASL.q (v := (.list 1 (List.map (AV.int .i64) p0))) rfl rfl (Light.quiet (opMove rfl rfl)) ?_
      refine ASL.q (v := (.int .i64 (p0.length : Int))) rfl rfl (Light.quiet (opLenMap (f := (AV.int .i64)) rfl rfl rfl lenT_26 rfl)) ?_
      refine ASL.q (v := (.bool (decide (x5_l0 < ((p0.length : Int)))))) rfl rfl (Light.quiet (opInt rfl rfl rfl rfl)) ?_
      refine ASL.done ?_
      refine AWP.ifP hF rfl (fun hc9 hF => ?_) (fun hc9 hF => ?_)
      · skip
        refine AWP.skip ?_
        refine QThen.nrm ?_
        refine AWP.seq ?_
        refine AWP.block ?_
        refine AWP.seqD [(0, false), (1, false), (2, false), (3, false), (4, false), (5, false), (6, false), (7, false), (8, false)] mixed (by kernel_rfl) rfl ?_
        refine ARL.q0 (v := (.list 1 (List.map (AV.int .i64) p0))) rfl rfl (Light.quiet (opMove rfl rfl)) ?_
        refine ARL.q0 (v := (.int .i64 x5_l0)) rfl rfl (Light.quiet (opMove rfl rfl)) ?_
        obtain ⟨a19, ha19, hF⟩ := bindE hF
        refine ARL.q0 (v := (.rptr [(.int .i64 a19)])) rfl rfl (Light.quiet (kIx (f := (AV.int .i64)) ha19 rfl rfl rfl elemA_26 sizeA_3 rfl)) ?_
        refine ARL.q0 (v := (.int .i64 a19)) rfl rfl (Light.quiet (opLoadR rfl aggA_3 rfl rfl)) ?_
        refine ARL.q0 (v := (.list 1 (List.map (AV.int .i64) p1))) rfl rfl (Light.quiet (opMove rfl rfl)) ?_
        refine ARL.q0 (v := (.int .i64 x5_l0)) rfl rfl (Light.quiet (opMove rfl rfl)) ?_
        obtain ⟨a23, ha23, hF⟩ := bindE hF
        refine ARL.q0 (v := (.rptr [(.int .i64 a23)])) rfl rfl (Light.quiet (kIx (f := (AV.int .i64)) ha23 rfl rfl rfl elemA_26 sizeA_3 rfl)) ?_
        refine ARL.q0 (v := (.int .i64 a23)) rfl rfl (Light.quiet (opLoadR rfl aggA_3 rfl rfl)) ?_
        refine ARL.q0 (v := (.bool (decide (a19 ≠ a23)))) rfl rfl (Light.quiet (opInt rfl rfl rfl rfl)) ?_
        refine ARL.done ?_
        refine AWP.ifP hF rfl (fun hc10 hF => ?_) (fun hc10 hF => ?_)
        · skip
          refine AWP.seqR rfl ?_
          refine ASL.q (v := (.bool false)) rfl rfl (Light.quiet (opAssign rfl rfl)) ?_
          refine ASL.done ?_
          refine AWP.ret ?_
          refine QBlock.ret ?_
          refine QThen.rt ?_
          refine QThen.rt ?_
          refine QBlock.ret ?_
          refine QThen.rt ?_
          obtain rfl := (hx4 _ (someE hF).symm)
          have hF := hR7
          have hF := sumR hF
          obtain rfl := someE hF
          exact QRet.sole (v := (.bool false)) ⟨rfl, trivial⟩ rfl
        · skip
          refine AWP.skip ?_
          refine QBlock.nrm ?_
          refine QThen.nrm ?_
          refine AWP.lastR rfl ?_
          refine ASL.q (v := (.int .i64 x5_l0)) rfl rfl (Light.quiet (opMove rfl rfl)) ?_
          refine ASL.q (v := (.int .i64 (W (x5_l0 + 1)))) rfl rfl (Light.quiet (opInt rfl rfl rfl rfl)) ?_
          refine ASL.q (v := (.int .i64 (W (x5_l0 + 1)))) rfl rfl (Light.quiet (opAssign rfl rfl)) ?_
          refine ASL.done ?_
          refine QThen.nrm ?_
          exact ⟨(W (x5_l0 + 1)), (), (someE hF).symm, ⟨rfl, rfl, rfl, trivial⟩, (hS.pick [] rfl rfl)⟩
      · skip
        refine AWP.exit ?_
        refine QThen.ext ?_
        refine QThen.ext ?_
        refine QBlock.hit ?_
        obtain rfl := (hx4 _ (someE hF).symm)
        have hF := hR7
        have hF := sumL hF
        refine QThen.nrm ?_
        exact ⟨trivial, (hS.pick [] rfl rfl), hF⟩

set_option maxRecDepth 10000 in
theorem spec_AutoEdge_ok {p0 : TAuto} {p1 : Int} {p2 : Int} {p3 : Int} {r : (Bool × Bool)} (hF : spec_AutoEdge p0 p1 p2 p3 = some r) : PC Try.prog 22 [(TAuto.av p0), (.int .i64 p1), (.int .i64 p2), (.int .i64 p3)] fun v => v = .tup [(.bool r.1), (.bool r.2)] := by
  refine PC.enter Try.func22 rfl Try.ntmps22 (by simp) ?_
  have hS := Sep.void; unfold spec_AutoEdge at hF
  refine AWP.seqR rfl ?_
  refine ASL.q (v := (.rptr [(.int .i64 p0.letters), (.int .i64 p0.states), (.int .i64 p0.start), (.list 4 (List.map TEdge.av p0.edges))])) rfl rfl ((qBoxI (v := (TAuto.av p0)) rfl rfl rfl rfl)) ?_
  refine ASL.q (v := (.bool false)) rfl rfl (Light.quiet (opAssign rfl rfl)) ?_
  refine ASL.q (v := (.bool false)) rfl rfl (Light.quiet (opAssign rfl rfl)) ?_
  refine ASL.done ?_
  refine AWP.seqM (fun e H => E.Told e [] ∧ E.Sep H [] ∧ spec_AutoEdge.k0 = some r) ?_ ?_
  · rintro e0 G1 ⟨hT, hS, hF⟩; refine AWP.only _ hT ?_; unfold spec_AutoEdge.k0 at hF
    refine AWP.seqR rfl ?_
    refine ASL.q (v := (.bool false)) rfl rfl (Light.quiet (opAssign rfl rfl)) ?_
    refine ASL.q (v := (.bool false)) rfl rfl (Light.quiet (opAssign rfl rfl)) ?_
    refine ASL.done ?_
    refine AWP.ret ?_
    obtain rfl := someE hF
    exact QRet.many (vs := [(.bool false), (.bool false)]) ⟨rfl, rfl, trivial⟩ (by simp) rfl
  · skip
    refine AWP.seqR rfl ?_
    refine ASL.q (v := (.int .i64 0)) rfl rfl (Light.quiet (opAssign rfl rfl)) ?_
    refine ASL.done ?_
    refine AWP.block ?_
    obtain ⟨o5, hL4, hR6⟩ := bindE hF
    refine AWP.loopF (ω := Unit) hL4 (fun s w => [(1, (.int .i64 p1)), (2, (.int .i64 p2)), (3, (.int .i64 p3)), (4, (.rptr [(.int .i64 p0.letters), (.int .i64 p0.states), (.int .i64 p0.start), (.list 4 (List.map TEdge.av p0.edges))])), (10, (.int .i64 s))]) (fun s w => []) () ⟨rfl, rfl, rfl, rfl, rfl, trivial⟩ (hS.pick [] rfl rfl) ?_
    rintro x10_l0 _ G7 hS x2 hF hx3
    try dsimp only at hS ⊢
    have hF : spec_AutoEdge.b0 p0 p1 p2 p3 x10_l0 = some x2 := hF; unfold spec_AutoEdge.b0 at hF
    refine AWP.seq ?_
    refine AWP.seqR rfl ?_
    refine ASL.q (v := (.int .i64 x10_l0)) rfl rfl (Light.quiet (opMove rfl rfl)) ?_
    refine ASL.q (v := (.rptr [(.list 4 (List.map TEdge.av p0.edges))])) rfl rfl (Light.quiet (opFieldAddrR rfl fieldA_33_3 rfl rfl)) ?_
    refine ASL.q (v := (.list 4 (List.map TEdge.av p0.edges))) rfl rfl (Light.quiet (opLoadR rfl aggA_31 rfl rfl)) ?_
    refine ASL.q (v := (.int .i64 (p0.edges.length : Int))) rfl rfl (Light.quiet (opLenMap (f := TEdge.av) rfl rfl rfl lenT_31 rfl)) ?_
    refine ASL.q (v := (.bool (decide (x10_l0 < ((p0.edges.length : Int)))))) rfl rfl (Light.quiet (opInt rfl rfl rfl rfl)) ?_
    obtain ⟨c17, hc17, hF⟩ := bndE hF
    refine ASL.q (v := (.bool c17)) rfl rfl ((Quiet.cast (Light.quiet (opMove rfl rfl)) (congrArg AV.bool hc17.symm))) ?_
    refine ASL.g (v := (TAuto.av p0)) (.bool c17) true rfl (wT _) rfl (fun hG => by have q0 := hG; subst q0; exact Light.quiet (opLoadRA rfl aggA_33 sizeA_33 rfl (nlt rfl) rfl)) ?_
    obtain ⟨a19, ha19, hF⟩ := bindE hF
    refine ASL.g (v := (.bool a19)) (.bool c17) true rfl (wT _) rfl (fun hG => by have q0 := hG; subst q0; exact (qCall rfl rfl call_51 (spec_AutoOk_ok (whenE ha19)) rfl)) ?_
    refine ASL.q (v := (.bool (c17 && a19))) rfl rfl (Light.quiet (opPick (b := c17) rfl rfl (by cases c17 <;> rfl))) ?_
    refine ASL.done ?_
    refine AWP.ifB hF rfl (fun hc8 hF => ?_) (fun hc8 hF => ?_)
    · skip
      refine AWP.skip ?_
      refine QThen.nrm ?_
      refine AWP.seq ?_
      refine AWP.block ?_
      refine AWP.seqR rfl ?_
      refine ASL.q (v := (.rptr [(.list 4 (List.map TEdge.av p0.edges))])) rfl rfl (Light.quiet (opFieldAddrR rfl fieldA_33_3 rfl rfl)) ?_
      refine ASL.q (v := (.list 4 (List.map TEdge.av p0.edges))) rfl rfl (Light.quiet (opLoadR rfl aggA_31 rfl rfl)) ?_
      refine ASL.q (v := (.int .i64 x10_l0)) rfl rfl (Light.quiet (opMove rfl rfl)) ?_
      obtain ⟨a26, ha26, hF⟩ := bindE hF
      refine ASL.q (v := (.rptr [(.int .i64 a26.from_), (.int .i64 a26.letter), (.int .i64 a26.to_), (.bool a26.good)])) rfl rfl (Light.quiet (kIx (f := TEdge.av) ha26 rfl rfl rfl elemA_31 sizeA_73 rfl)) ?_
      refine ASL.q (v := (TEdge.av a26)) rfl rfl (Light.quiet (opLoadRA rfl aggA_73 sizeA_73 rfl (nlt rfl) rfl)) ?_
      refine ASL.x rfl rfl (hNewZ hS [(.int .i64 0), (.int .i64 0), (.int .i64 0), (.bool false)] rfl zeroA_73 ⟨.inl rfl, .inl rfl, .inl rfl, .inl rfl, trivial⟩ ?_); rintro b11 G9 hK hS
      refine ASL.n rfl rfl (hPutA hS (j := 0) rfl rfl sizeA_73 rfl rfl rfl rfl rfl (nlt rfl) ?_); rintro G11 hS
      refine ASL.done ?_
      refine AWP.seqR rfl ?_
      refine ASL.q (v := (.ptr b11 0)) rfl rfl (Light.quiet (opFieldAddr rfl fieldA_73_0 rfl rfl)) ?_
      refine ASL.q (v := (.int .i64 a26.from_)) rfl rfl (Light.quiet (kAt hS (j := 0) rfl rfl aggA_3 rfl rfl)) ?_
      refine ASL.q (v := (.int .i64 p1)) rfl rfl (Light.quiet (opMove rfl rfl)) ?_
      refine ASL.q (v := (.bool (decide (a26.from_ = p1)))) rfl rfl (Light.quiet (opInt rfl rfl rfl rfl)) ?_
      obtain ⟨c32, hc32, hF⟩ := bndE hF
      refine ASL.q (v := (.bool c32)) rfl rfl ((Quiet.cast (Light.quiet (opMove rfl rfl)) (congrArg AV.bool hc32.symm))) ?_
      refine ASL.g (v := (.ptr b11 1)) (.bool c32) true rfl (wT _) rfl (fun hG => by have q0 := hG; subst q0; exact Light.quiet (opFieldAddr rfl fieldA_73_1 rfl rfl)) ?_
      refine ASL.g (v := (.int .i64 a26.letter)) (.bool c32) true rfl (wT _) rfl (fun hG => by have q0 := hG; subst q0; exact Light.quiet (kAt hS (j := 0) rfl rfl aggA_3 rfl rfl)) ?_
      refine ASL.g (v := (.int .i64 p2)) (.bool c32) true rfl (wT _) rfl (fun hG => by have q0 := hG; subst q0; exact Light.quiet (opMove rfl rfl)) ?_
      refine ASL.g (v := (.bool (decide (a26.letter = p2)))) (.bool c32) true rfl (wT _) rfl (fun hG => by have q0 := hG; subst q0; exact Light.quiet (opInt rfl rfl rfl rfl)) ?_
      refine ASL.q (v := (.bool (c32 && (decide (a26.letter = p2))))) rfl rfl (Light.quiet (opPick (b := c32) rfl rfl (by cases c32 <;> rfl))) ?_
      obtain ⟨c38, hc38, hF⟩ := bndE hF
      refine ASL.q (v := (.bool c38)) rfl rfl ((Quiet.cast (Light.quiet (opMove rfl rfl)) (congrArg AV.bool hc38.symm))) ?_
      refine ASL.g (v := (.ptr b11 2)) (.bool c38) true rfl (wT _) rfl (fun hG => by have q0 := hG; subst q0; exact Light.quiet (opFieldAddr rfl fieldA_73_2 rfl rfl)) ?_
      refine ASL.g (v := (.int .i64 a26.to_)) (.bool c38) true rfl (wT _) rfl (fun hG => by have q0 := hG; subst q0; exact Light.quiet (kAt hS (j := 0) rfl rfl aggA_3 rfl rfl)) ?_
      refine ASL.g (v := (.int .i64 p3)) (.bool c38) true rfl (wT _) rfl (fun hG => by have q0 := hG; subst q0; exact Light.quiet (opMove rfl rfl)) ?_
      refine ASL.g (v := (.bool (decide (a26.to_ = p3)))) (.bool c38) true rfl (wT _) rfl (fun hG => by have q0 := hG; subst q0; exact Light.quiet (opInt rfl rfl rfl rfl)) ?_
      refine ASL.q (v := (.bool (c38 && (decide (a26.to_ = p3))))) rfl rfl (Light.quiet (opPick (b := c38) rfl rfl (by cases c38 <;> rfl))) ?_
      refine ASL.done ?_
      refine AWP.ifB hF rfl (fun hc12 hF => ?_) (fun hc12 hF => ?_)
      · skip
        refine AWP.seqR rfl ?_
        refine ASL.q (v := (.ptr b11 3)) rfl rfl (Light.quiet (opFieldAddr rfl fieldA_73_3 rfl rfl)) ?_
        refine ASL.q (v := (.bool a26.good)) rfl rfl (Light.quiet (kAt hS (j := 0) rfl rfl aggA_4 rfl rfl)) ?_
        refine ASL.q (v := (.bool a26.good)) rfl rfl (Light.quiet (opAssign rfl rfl)) ?_
        refine ASL.q (v := (.bool true)) rfl rfl (Light.quiet (opAssign rfl rfl)) ?_
        refine ASL.done ?_
        refine AWP.ret ?_
        refine QBlock.ret ?_
        refine QThen.rt ?_
        refine QThen.rt ?_
        refine QBlock.ret ?_
        refine QThen.rt ?_
        obtain rfl := (hx3 _ (someE hF).symm)
        have hF := hR6
        have hF := sumR hF
        obtain rfl := someE hF
        exact QRet.many (vs := [(.bool a26.good), (.bool true)]) ⟨rfl, rfl, trivial⟩ (by simp) rfl
      · skip
        refine AWP.skip ?_
        refine QBlock.nrm ?_
        refine QThen.nrm ?_
        refine AWP.lastR rfl ?_
        refine ASL.q (v := (.int .i64 x10_l0)) rfl rfl (Light.quiet (opMove rfl rfl)) ?_
        refine ASL.q (v := (.int .i64 (W (x10_l0 + 1)))) rfl rfl (Light.quiet (opInt rfl rfl rfl rfl)) ?_
        refine ASL.q (v := (.int .i64 (W (x10_l0 + 1)))) rfl rfl (Light.quiet (opAssign rfl rfl)) ?_
        refine ASL.done ?_
        refine QThen.nrm ?_
        exact ⟨(W (x10_l0 + 1)), (), (someE hF).symm, ⟨rfl, rfl, rfl, rfl, rfl, trivial⟩, (hS.pick [] rfl rfl)⟩
    · skip
      refine AWP.exit ?_
      refine QThen.ext ?_
      refine QThen.ext ?_
      refine QBlock.hit ?_
      obtain rfl := (hx3 _ (someE hF).symm)
      have hF := hR6
      have hF := sumL hF
      refine QThen.nrm ?_
      exact ⟨trivial, (hS.pick [] rfl rfl), hF⟩

end Go.Proofs.Ytllpbgcajgbfbaa
