/- The program's lists of twins and of boxes, with rows of their own. -/
import Derived.Test.YtcmbbpdepobnlaaG1
import Derived.Test.YtcmbbpdepobnlaaKBoxesOf
namespace Go.Proofs.Ytcmbbpdepobnlaa
open Go Go.RowKit E
set_option linter.unusedVariables false
structure RTw where
  w : AV
  a : AV
  b : AV
  qw : List Int
  qa : List Int
  qb : List Int
  h : w.one = true ∧ a.one = true ∧ b.one = true
instance : Inhabited RTw := ⟨⟨.nil, .nil, .nil, [], [], [], ⟨rfl, rfl, rfl⟩⟩⟩
noncomputable def RTw.raw (e : RTw) : AV := .agg [e.w, e.a, e.b]
noncomputable def RTw.t (e : RTw) : Ttwin := ⟨e.qw, e.qa, e.qb⟩
noncomputable def RTw.rows (e : RTw) : List (AV × List AV) := [(e.w, e.qw.map (AV.int .i64)), (e.a, e.qa.map (AV.int .i64)), (e.b, e.qb.map (AV.int .i64))]
theorem RTw.ones (e : RTw) : (cells e.raw).all AV.one = true := allC e.h.1 (allC e.h.2.1 (allC e.h.2.2 rfl))
theorem RTw.mW {es : List RTw} {x : RTw} (h : x ∈ es) : (x.w, x.qw.map (AV.int .i64)) ∈ es.flatMap RTw.rows := List.mem_flatMap.mpr ⟨x, h, by simp [RTw.rows]⟩
theorem RTw.mA {es : List RTw} {x : RTw} (h : x ∈ es) : (x.a, x.qa.map (AV.int .i64)) ∈ es.flatMap RTw.rows := List.mem_flatMap.mpr ⟨x, h, by simp [RTw.rows]⟩
theorem RTw.mB {es : List RTw} {x : RTw} (h : x ∈ es) : (x.b, x.qb.map (AV.int .i64)) ∈ es.flatMap RTw.rows := List.mem_flatMap.mpr ⟨x, h, by simp [RTw.rows]⟩
theorem RTw.ras {L : List Res} {k kp : Nat} {w : AV} {es : List RTw} (hk : L[k]? = some (.row 3 w (es.map RTw.raw))) (hp : L[kp]? = some (.pool (es.flatMap RTw.rows))) : RAS L w (.list 3 ((es.map RTw.t).map Ttwin.av)) := by
  refine RAS.rowL hk (by simp) (fun y hy => by simp only [List.mem_map] at hy; obtain ⟨_, ⟨x, _, rfl⟩, rfl⟩ := hy; rfl) ?_
  have key : ∀ l : List RTw, (∀ x ∈ l, x ∈ es) → RASs L (flat (l.map RTw.raw)) (flat ((l.map RTw.t).map Ttwin.av)) := by
    intro l
    induction l with
    | nil => intro _; exact trivial
    | cons x l ih =>
      intro h
      have hx := h x List.mem_cons_self
      exact ⟨.pool hp (RTw.mW hx), .pool hp (RTw.mA hx), .pool hp (RTw.mB hx), ih fun y hy => h y (List.mem_cons_of_mem _ hy)⟩
  exact key es fun x h => h
theorem flatMap_one {α β : Type} (f : α → List β) (x : α) : [x].flatMap f = f x := by simp
set_option maxRecDepth 10000 in
theorem impl_twins_own {p0 : TAuto} {p1 : TAuto} {r : ((List Ttwin) × Bool)} (hF : impl_twins p0 p1 = some r) : HS Try.prog 67 [(TAuto.av p0), (TAuto.av p1)] [] fun v L' => ∃ (o : AV) (es : List RTw), v = .tup [o, .bool r.2] ∧ es.map RTw.t = r.1 ∧ L' = [.row 3 o (es.map RTw.raw), .pool (es.flatMap RTw.rows)] := by
  intro H S hS
  refine HC.enter Try.func67 rfl Try.ntmps67 (by simp) ?_
  simp only [List.nil_append] at hS
  unfold impl_twins at hF
  refine AWP.seqR rfl ?_
  refine ASL.q (v := (.rptr [(.int .i64 p0.letters), (.int .i64 p0.states), (.int .i64 p0.start), (.list 4 (List.map TEdge.av p0.edges))])) rfl rfl ((qBoxI (v := (TAuto.av p0)) rfl rfl rfl rfl)) ?_
  refine ASL.q (v := (.rptr [(.int .i64 p1.letters), (.int .i64 p1.states), (.int .i64 p1.start), (.list 4 (List.map TEdge.av p1.edges))])) rfl rfl ((qBoxI (v := (TAuto.av p1)) rfl rfl rfl rfl)) ?_
  refine ASL.q (v := .nil) rfl rfl (Light.quiet (opAssign rfl rfl)) ?_
  refine ASL.q (v := (.bool false)) rfl rfl (Light.quiet (opAssign rfl rfl)) ?_
  refine ASL.done ?_
  obtain ⟨a14, ha14, hF⟩ := bindE hF
  obtain ⟨a17, ha17, hF⟩ := bindE hF
  refine AWP.seqT (fun e H => ∃ b6 : Nat, ∃ v19 : AV, ∃ es : List RTw, es.map RTw.t = [(Ttwin.mk ([]) a14 a17)] ∧ E.Told e [(2, (.rptr [(.int .i64 p0.letters), (.int .i64 p0.states), (.int .i64 p0.start), (.list 4 (List.map TEdge.av p0.edges))])), (3, (.rptr [(.int .i64 p1.letters), (.int .i64 p1.states), (.int .i64 p1.start), (.list 4 (List.map TEdge.av p1.edges))])), (6, (.ptr b6 0))] ∧ E.Sep H [.row 3 v19 (es.map RTw.raw), .cell b6 [v19], .pool (es.flatMap RTw.rows), .snap S]) (.q 0 (.q 1 (.q 3 (.q 4 (.fork (.h 2 (.fork (.h 5 (.q 6 (.fork (.h 7 (.h 8 (.h 9 .fin))) (.h 8 (.h 7 (.h 9 .fin)))))) (.h 8 (.h 5 (.q 6 (.h 7 (.h 9 .fin))))))) (.h 8 (.h 2 (.h 5 (.q 6 (.h 7 (.h 9 .fin))))))))))) mixed (by kernel_rfl) ?_ ?_
  · rintro e0 G0 ⟨b6, v19, es0, hes0, hT, hS⟩; refine AWP.only _ hT ?_
    refine AWP.seqR rfl ?_
    refine ASL.q (v := (.fn (.func 97) [] [(.ptr b6 0)])) rfl rfl (Light.quiet (opFunc rfl rfl)) ?_
    refine ASL.q (v := (.fn (.func 97) [] [(.ptr b6 0)])) rfl rfl (Light.quiet (opAssign rfl rfl)) ?_
    refine ASL.done ?_
    refine AWP.seqM (fun e H => ∃ y : (List Ttwin), ∃ w : AV, ∃ es : List RTw, es.map RTw.t = y ∧ E.Told e [(6, (.ptr b6 0))] ∧ E.Sep H [.row 3 w (es.map RTw.raw), .cell b6 [w], .pool (es.flatMap RTw.rows), .snap S] ∧ impl_twins.k0 y = some r) ?_ ?_
    · rintro e0 Ge ⟨y, w, es, hes, hT, hS, hF⟩; refine AWP.only _ hT ?_; unfold impl_twins.k0 at hF
      refine AWP.seqR rfl ?_
      refine ASL.q (v := w) rfl rfl (Light.quiet (kAt hS (j := 1) rfl rfl aggA_89 rfl rfl)) ?_
      refine ASL.q (v := w) rfl rfl (Light.quiet (opAssign rfl rfl)) ?_
      refine ASL.q (v := (.bool true)) rfl rfl (Light.quiet (opAssign rfl rfl)) ?_
      refine ASL.done ?_
      refine AWP.ret ?_
      obtain rfl := someE hF
      exact QRet.many (vs := [w, (.bool true)]) ⟨rfl, rfl, trivial⟩ (by simp) ⟨_, ⟨w, es, rfl, hes, rfl⟩, hS.pick [0, 2, 3] rfl rfl⟩
    · skip
      refine AWP.seqR rfl ?_
      refine ASL.q (v := (.int .i64 0)) rfl rfl (Light.quiet (opAssign rfl rfl)) ?_
      refine ASL.done ?_
      refine AWP.block ?_
      obtain ⟨o1, hL1, hR1⟩ := bindE hF
      refine AWP.loopI (ω := AV × List RTw) hL1 (fun s w => w.2.map RTw.t = s.1) (fun s w => [(2, (.rptr [(.int .i64 p0.letters), (.int .i64 p0.states), (.int .i64 p0.start), (.list 4 (List.map TEdge.av p0.edges))])), (3, (.rptr [(.int .i64 p1.letters), (.int .i64 p1.states), (.int .i64 p1.start), (.list 4 (List.map TEdge.av p1.edges))])), (6, (.ptr b6 0)), (7, (.fn (.func 97) [] [(.ptr b6 0)])), (8, (.int .i64 s.2))]) (fun s w => [.row 3 w.1 (w.2.map RTw.raw), .cell b6 [w.1], .pool (w.2.flatMap RTw.rows), .snap S]) (v19, es0) hes0 ⟨rfl, rfl, rfl, rfl, rfl, trivial⟩ hS ?_
      rintro ⟨y1, x8⟩ ⟨w1, es1⟩ Gl hes1 hS z1 hF hz1
      dsimp only at hes1 hS ⊢
      have hF : impl_twins.b0 p0 p1 y1 x8 = some z1 := hF; unfold impl_twins.b0 at hF
      have hlen1 : es1.length = y1.length := by rw [← hes1, List.length_map]
      refine AWP.seq ?_
      refine AWP.seqR rfl ?_
      refine ASL.q (v := (.int .i64 x8)) rfl rfl (Light.quiet (opMove rfl rfl)) ?_
      refine ASL.q (v := w1) rfl rfl (Light.quiet (kAt hS (j := 1) rfl rfl aggA_89 rfl rfl)) ?_
      refine ASL.q (v := (.int .i64 (y1.length : Int))) rfl rfl (Quiet.cast (Light.quiet (kLen hS (j := 0) rfl rfl rfl rfl lenT_89 rfl)) (by rw [hlen1])) ?_
      refine ASL.q (v := (.bool (decide (x8 < ((y1.length : Int)))))) rfl rfl (Light.quiet (opInt rfl rfl rfl rfl)) ?_
      refine ASL.done ?_
      refine AWP.ifP hF rfl (fun hc hF => ?_) (fun hc hF => ?_)
      · skip
        refine AWP.skip ?_
        refine QThen.nrm ?_
        refine AWP.seqM (fun e H => ∃ y : (List Ttwin), ∃ w : AV, ∃ es : List RTw, es.map RTw.t = y ∧ E.Told e [(2, (.rptr [(.int .i64 p0.letters), (.int .i64 p0.states), (.int .i64 p0.start), (.list 4 (List.map TEdge.av p0.edges))])), (3, (.rptr [(.int .i64 p1.letters), (.int .i64 p1.states), (.int .i64 p1.start), (.list 4 (List.map TEdge.av p1.edges))])), (6, (.ptr b6 0)), (7, (.fn (.func 97) [] [(.ptr b6 0)])), (8, (.int .i64 x8))] ∧ E.Sep H [.row 3 w (es.map RTw.raw), .cell b6 [w], .pool (es.flatMap RTw.rows), .snap S] ∧ impl_twins.k1 x8 y = some z1) ?_ ?_
        · rintro e0 Ge ⟨y, w, es, hes, hT, hS, hF⟩; refine AWP.only _ hT ?_; unfold impl_twins.k1 at hF
          refine AWP.lastR rfl ?_
          refine ASL.q (v := (.int .i64 x8)) rfl rfl (Light.quiet (opMove rfl rfl)) ?_
          refine ASL.q (v := (.int .i64 (W (x8 + 1)))) rfl rfl (Light.quiet (opInt rfl rfl rfl rfl)) ?_
          refine ASL.q (v := (.int .i64 (W (x8 + 1)))) rfl rfl (Light.quiet (opAssign rfl rfl)) ?_
          refine ASL.done ?_
          refine QThen.nrm ?_
          exact ⟨(y, (W (x8 + 1))), (w, es), (someE hF).symm, hes, ⟨rfl, rfl, rfl, rfl, rfl, trivial⟩, hS⟩
        · skip
          refine AWP.block ?_
          refine AWP.seqR rfl ?_
          refine ASL.q (v := (.rptr [(.int .i64 p0.letters), (.int .i64 p0.states), (.int .i64 p0.start), (.list 4 (List.map TEdge.av p0.edges))])) rfl rfl (Light.quiet (opFieldAddrR rfl fieldA_26_0 rfl rfl)) ?_
          refine ASL.q (v := (.int .i64 p0.letters)) rfl rfl (Light.quiet (opLoadR rfl aggA_3 rfl rfl)) ?_
          refine ASL.q (v := (.int .i64 0)) rfl rfl (Light.quiet (opMove rfl rfl)) ?_
          refine ASL.done ?_
          refine AWP.block ?_
          obtain ⟨o2, hL2, hR2⟩ := bindE hF
          refine AWP.loopI (ω := AV × List RTw) hL2 (fun s w => w.2.map RTw.t = s.1) (fun s w => [(2, (.rptr [(.int .i64 p0.letters), (.int .i64 p0.states), (.int .i64 p0.start), (.list 4 (List.map TEdge.av p0.edges))])), (3, (.rptr [(.int .i64 p1.letters), (.int .i64 p1.states), (.int .i64 p1.start), (.list 4 (List.map TEdge.av p1.edges))])), (6, (.ptr b6 0)), (7, (.fn (.func 97) [] [(.ptr b6 0)])), (8, (.int .i64 x8)), (28, (.int .i64 p0.letters)), (29, (.int .i64 s.2))]) (fun s w => [.row 3 w.1 (w.2.map RTw.raw), .cell b6 [w.1], .pool (w.2.flatMap RTw.rows), .snap S]) (w1, es1) hes1 ⟨rfl, rfl, rfl, rfl, rfl, rfl, rfl, trivial⟩ hS ?_
          rintro ⟨y2, x29⟩ ⟨w2, es2⟩ Gm hes2 hS z2 hF hz2
          dsimp only at hes2 hS ⊢
          have hF : impl_twins.b1 p0 x8 p1 y2 x29 = some z2 := hF; unfold impl_twins.b1 at hF
          have hlen2 : es2.length = y2.length := by rw [← hes2, List.length_map]
          refine AWP.seqR rfl ?_
          refine ASL.q (v := (.bool (decide (x29 < p0.letters)))) rfl rfl (Light.quiet (opInt rfl rfl rfl rfl)) ?_
          refine ASL.done ?_
          refine AWP.seq ?_
          refine AWP.ifP hF rfl (fun hc hF => ?_) (fun hc hF => ?_)
          · skip
            refine AWP.skip ?_
            refine QThen.nrm ?_
            refine AWP.seq ?_
            refine AWP.block ?_
            refine AWP.seqR rfl ?_
            refine ASL.q (v := (.int .i64 x29)) rfl rfl (Light.quiet (opMove rfl rfl)) ?_
            refine ASL.q (v := (.int .i64 x29)) rfl rfl (Light.quiet (opAssign rfl rfl)) ?_
            refine ASL.done ?_
            refine AWP.seqR rfl ?_
            refine ASL.q (v := w2) rfl rfl (Light.quiet (kAt hS (j := 1) rfl rfl aggA_89 rfl rfl)) ?_
            refine ASL.q (v := (.int .i64 x8)) rfl rfl (Light.quiet (opMove rfl rfl)) ?_
            obtain ⟨a34, ha34, hF⟩ := bindE hF
            rw [← hes2] at ha34
            obtain ⟨x, hx, hxa, hxm⟩ := ix_map ha34
            obtain rfl := hxa
            have hmW := RTw.mW hxm; have hmA := RTw.mA hxm; have hmB := RTw.mB hxm
            refine ASL.q (v := (ptrTo w2 x8.toNat 3)) rfl rfl (Light.quiet (kIxOx (f := RTw.raw) hS (j := 0) rfl hx rfl rfl rfl elemA_89 sizeA_93)) ?_
            refine ASL.q (v := (.agg [x.w, x.a, x.b])) rfl rfl (Light.quiet (kLdA (f := RTw.raw) hS (j := 0) rfl hx rfl aggA_93 sizeA_93 rfl rfl)) ?_
            refine ASL.x rfl rfl (hNewZ hS [.nil, .nil, .nil] rfl zeroA_93 ⟨.inl rfl, .inl rfl, .inl rfl, trivial⟩ ?_); rintro b10 Gn hK hS
            refine ASL.n rfl rfl (hPutA hS (j := 0) rfl rfl sizeA_93 rfl rfl rfl rfl x.ones (nlt rfl) ?_); rintro Gp hS
            refine ASL.done ?_
            obtain ⟨a42, ha42, hF⟩ := bindE hF
            obtain ⟨a43, ha43, hF⟩ := bindE hF
            obtain ⟨a50, ha50, hF⟩ := bindE hF
            obtain ⟨a51, ha51, hF⟩ := bindE hF
            refine AWP.seqT (fun e H => ∃ b11 : Nat, ∃ v43 v51 : AV, v43.one = true ∧ v51.one = true ∧ E.Told e [(2, (.rptr [(.int .i64 p0.letters), (.int .i64 p0.states), (.int .i64 p0.start), (.list 4 (List.map TEdge.av p0.edges))])), (3, (.rptr [(.int .i64 p1.letters), (.int .i64 p1.states), (.int .i64 p1.start), (.list 4 (List.map TEdge.av p1.edges))])), (6, (.ptr b6 0)), (7, (.fn (.func 97) [] [(.ptr b6 0)])), (8, (.int .i64 x8)), (9, (.int .i64 x29)), (10, (.ptr b10 0)), (11, (.ptr b11 0)), (28, (.int .i64 p0.letters)), (29, (.int .i64 x29))] ∧ E.Sep H [.cell b11 [.nil, v43, v51], .row 1 v43 (a43.map (AV.int .i64)), .row 1 v51 (a51.map (AV.int .i64)), .cell b10 [x.w, x.a, x.b], .row 3 w2 (es2.map RTw.raw), .cell b6 [w2], .pool (es2.flatMap RTw.rows), .snap S]) (.q 0 (.q 1 (.q 2 (.q 3 (.q 4 (.q 5 (.q 6 (.q 8 (.q 9 (.q 10 (.q 11 (.q 12 (.q 13 (.fork (.h 7 (.q 14 (.fork (.h 15 (.q 16 (.h 17 (.h 18 .fin)))) (.h 17 (.h 15 (.q 16 (.h 18 .fin))))))) (.h 17 (.h 7 (.q 14 (.h 15 (.q 16 (.h 18 .fin)))))))))))))))))))) mixed (by kernel_rfl) ?_ ?_
            · rintro e0 Gq ⟨b11, v43, v51, h43, h51, hT, hS⟩; refine AWP.only _ hT ?_
              refine AWP.seq ?_
              refine AWP.seqR rfl ?_
              refine ASL.q (v := (.fn (.func 97) [] [(.ptr b6 0)])) rfl rfl (Light.quiet (opMove rfl rfl)) ?_
              refine ASL.q (v := (.agg [.nil, v43, v51])) rfl rfl (Light.quiet (kAtA hS (j := 0) rfl rfl aggA_93 sizeA_93 rfl (nlt rfl) rfl)) ?_
              obtain ⟨a55, ha55, hF⟩ := bindE hF
              rw [← hes2] at ha55
              refine ASL.q (v := (.bool a55)) rfl rfl ((qCallR hS rfl rfl call_97 (impl_twins_1_ok ha55) ⟨.aggL ⟨.nil 1, .row (k := 1) rfl, .row (k := 2) rfl, trivial⟩, RAS.cellL (k := 5) rfl ⟨RTw.ras (k := 4) (kp := 6) rfl rfl, trivial⟩, trivial⟩ (by constructor))) ?_
              refine ASL.done ?_
              refine AWP.ifB hF rfl (fun hc hF => ?_) (fun hc hF => ?_)
              · skip
                refine AWP.exit ?_
                refine QThen.ext ?_
                refine QBlock.hit ?_
                refine QThen.nrm ?_
                refine AWP.lastR rfl ?_
                refine ASL.q (v := (.int .i64 (W (x29 + 1)))) rfl rfl (Light.quiet (opInt rfl rfl rfl rfl)) ?_
                refine ASL.q (v := (.int .i64 (W (x29 + 1)))) rfl rfl (Light.quiet (opMove rfl rfl)) ?_
                refine ASL.done ?_
                refine QThen.nrm ?_
                exact ⟨(y2, (W (x29 + 1))), (w2, es2), (someE hF).symm, hes2, ⟨rfl, rfl, rfl, rfl, rfl, rfl, rfl, trivial⟩, (hS.pick [4, 5, 6, 7] rfl rfl)⟩
              · skip
                refine AWP.skip ?_
                refine QThen.nrm ?_
                refine AWP.seqR rfl ?_
                refine ASL.q (v := (.ptr b10 0)) rfl rfl (Light.quiet (opFieldAddr rfl fieldA_93_0 rfl rfl)) ?_
                refine ASL.q (v := x.w) rfl rfl (Light.quiet (kAt hS (j := 3) rfl rfl aggA_27 rfl rfl)) ?_
                obtain ⟨a58, ha58, hF⟩ := bindE hF
                refine ASL.x rfl rfl (hCallOR hS rfl rfl call_78 (slices_Clone_int_int_ok ha58) ⟨.pool (k := 6) rfl hmW, trivial⟩ (Scal.ints _ _) ?_); rintro v58 Gr hK hS
                refine ASL.q (v := (.int .i64 x29)) rfl rfl (Light.quiet (opMove rfl rfl)) ?_
                refine ASL.q (v := (.list 1 (List.map (AV.int .i64) [x29]))) rfl rfl ((qLit (xs := [(.int .i64 x29)]) rfl elemA_27 sizeA_3 zeroA_3 rfl rfl rfl rfl (by simp [cells]) (nlt rfl))) ?_
                obtain ⟨z61, hz61, hF⟩ := bindE hF
                refine ASL.x rfl rfl (hApp (f := (AV.int .i64)) (ws := [x29]) hS (j := 0) rfl hz61 rfl elemA_27 rfl sizeA_3 bytesA_3 zeroA_3 rfl rfl rfl (fun _ => rfl) ?_); rintro v61 Gs hS
                have h61 := hS.one (k := 0) rfl
                refine ASL.q (v := (.ptr b11 0)) rfl rfl (Light.quiet (opFieldAddr rfl fieldA_93_0 rfl rfl)) ?_
                refine ASL.n rfl rfl (hPut hS (j := 1) rfl rfl sizeA_27 rfl rfl h61 (nlt rfl) ?_); rintro Gt hS
                refine ASL.done ?_
                refine AWP.seq ?_
                refine AWP.seqR rfl ?_
                refine ASL.q (v := w2) rfl rfl (Light.quiet (kAt hS (j := 6) rfl rfl aggA_89 rfl rfl)) ?_
                refine ASL.q (v := (.int .i64 (y2.length : Int))) rfl rfl (Quiet.cast (Light.quiet (kLen hS (j := 5) rfl rfl rfl rfl lenT_89 rfl)) (by rw [hlen2])) ?_
                refine ASL.q (v := (.bool (decide (((y2.length : Int)) = 150)))) rfl rfl (Light.quiet (opInt rfl rfl rfl rfl)) ?_
                obtain ⟨c66, hc66, hF⟩ := bndE hF
                refine ASL.q (v := (.bool c66)) rfl rfl ((Quiet.cast (Light.quiet (opMove rfl rfl)) (congrArg AV.bool hc66.symm))) ?_
                refine ASL.g (v := (.ptr b11 0)) (.bool c66) false rfl (wF _) rfl (fun hG => by have q0 := gN hG; subst q0; exact Light.quiet (opFieldAddr rfl fieldA_93_0 rfl rfl)) ?_
                refine ASL.g (v := v61) (.bool c66) false rfl (wF _) rfl (fun hG => by have q0 := gN hG; subst q0; exact Light.quiet (kAt hS (j := 1) rfl rfl aggA_27 rfl rfl)) ?_
                refine ASL.g (v := (.int .i64 (z61.length : Int))) (.bool c66) false rfl (wF _) rfl (fun hG => by have q0 := gN hG; subst q0; exact Light.quiet (kLen hS (j := 0) rfl rfl rfl rfl lenT_27 rfl)) ?_
                refine ASL.g (v := (.bool (decide (((z61.length : Int)) > 40)))) (.bool c66) false rfl (wF _) rfl (fun hG => by have q0 := gN hG; subst q0; exact Light.quiet (opInt rfl rfl rfl rfl)) ?_
                refine ASL.q (v := (.bool (c66 || (decide (((z61.length : Int)) > 40))))) rfl rfl (Light.quiet (opPick (b := c66) rfl rfl (by cases c66 <;> rfl))) ?_
                refine ASL.done ?_
                refine AWP.ifB hF rfl (fun hc hF => ?_) (fun hc hF => ?_)
                · skip
                  refine AWP.seqR rfl ?_
                  refine ASL.q (v := .nil) rfl rfl (Light.quiet (opAssign rfl rfl)) ?_
                  refine ASL.q (v := (.bool false)) rfl rfl (Light.quiet (opAssign rfl rfl)) ?_
                  refine ASL.done ?_
                  refine AWP.ret ?_
                  refine QThen.rt ?_
                  refine QBlock.ret ?_
                  refine QThen.rt ?_
                  refine QThen.rt ?_
                  refine QBlock.ret ?_
                  refine QBlock.ret ?_
                  refine QThen.rt ?_
                  refine QThen.rt ?_
                  refine QBlock.ret ?_
                  refine QThen.rt ?_
                  obtain rfl := (hz2 _ (someE hF).symm)
                  have hF := hR2
                  have hF := sumR hF
                  obtain rfl := (hz1 _ (someE hF).symm)
                  have hF := hR1
                  have hF := sumR hF
                  obtain rfl := someE hF
                  have hS := (hNil (s := 3) (f := RTw.raw) (hS.pick [8] (L' := [.snap S]) rfl rfl).newPool)
                  exact QRet.many (vs := [.nil, (.bool false)]) ⟨rfl, rfl, trivial⟩ (by simp) ⟨_, ⟨.nil, [], rfl, rfl, rfl⟩, hS⟩
                · skip
                  refine AWP.skip ?_
                  refine QThen.nrm ?_
                  refine AWP.lastR rfl ?_
                  refine ASL.q (v := w2) rfl rfl (Light.quiet (kAt hS (j := 6) rfl rfl aggA_89 rfl rfl)) ?_
                  refine ASL.q (v := (.agg [v61, v43, v51])) rfl rfl (Light.quiet (kAtA hS (j := 1) rfl rfl aggA_93 sizeA_93 rfl (nlt rfl) rfl)) ?_
                  refine ASL.q (v := (.list 3 (List.map RTw.raw [(⟨v61, v43, v51, z61, a43, a51, ⟨h61, h43, h51⟩⟩ : RTw)]))) rfl rfl ((qLit (xs := [(.agg [v61, v43, v51])]) rfl elemA_89 sizeA_93 zeroA_93 rfl rfl rfl rfl (by simp [cells]) (nlt rfl))) ?_
                  obtain ⟨z75, hz75, hF⟩ := bindE hF
                  rw [← hes2] at hz75
                  obtain ⟨happ, rfl⟩ := app_map (xs := [(⟨v61, v43, v51, z61, a43, a51, ⟨h61, h43, h51⟩⟩ : RTw)]) (g := RTw.t) hz75
                  refine ASL.x rfl rfl (hApp (f := RTw.raw) (ws := [(⟨v61, v43, v51, z61, a43, a51, ⟨h61, h43, h51⟩⟩ : RTw)]) hS (j := 5) rfl happ rfl elemA_89 rfl sizeA_93 bytesA_93 zeroA_93 rfl rfl rfl RTw.ones ?_); rintro v75 Gu hS
                  refine ASL.n rfl rfl (hPut hS (j := 6) rfl rfl sizeA_89 rfl rfl (hS.one (k := 5) rfl) (nlt rfl) ?_); rintro Gv hS
                  refine ASL.done ?_
                  have hS := hS.pick (L' := [.pool (es2.flatMap RTw.rows), .row 1 v61 (z61.map (AV.int .i64)), .row 1 v43 (a43.map (AV.int .i64)), .row 1 v51 (a51.map (AV.int .i64)), .row 3 v75 ((es2 ++ [(⟨v61, v43, v51, z61, a43, a51, ⟨h61, h43, h51⟩⟩ : RTw)]).map RTw.raw), .cell b6 [v75], .snap S]) [7, 0, 2, 3, 5, 6, 8] rfl rfl
                  have hS := ((hS.poolIn (k := 2) rfl).poolIn (k := 1) rfl).poolIn (k := 0) rfl
                  have hS := hS.permPool (qs := (es2 ++ [(⟨v61, v43, v51, z61, a43, a51, ⟨h61, h43, h51⟩⟩ : RTw)]).flatMap RTw.rows) (by rw [List.flatMap_append, flatMap_one]; exact List.perm_append_comm (l₁ := RTw.rows (⟨v61, v43, v51, z61, a43, a51, ⟨h61, h43, h51⟩⟩ : RTw)))
                  refine QBlock.nrm ?_
                  refine QThen.nrm ?_
                  refine AWP.lastR rfl ?_
                  refine ASL.q (v := (.int .i64 (W (x29 + 1)))) rfl rfl (Light.quiet (opInt rfl rfl rfl rfl)) ?_
                  refine ASL.q (v := (.int .i64 (W (x29 + 1)))) rfl rfl (Light.quiet (opMove rfl rfl)) ?_
                  refine ASL.done ?_
                  refine QThen.nrm ?_
                  exact ⟨((es2 ++ [(⟨v61, v43, v51, z61, a43, a51, ⟨h61, h43, h51⟩⟩ : RTw)]).map RTw.t, (W (x29 + 1))), (v75, es2 ++ [(⟨v61, v43, v51, z61, a43, a51, ⟨h61, h43, h51⟩⟩ : RTw)]), (someE hF).symm, rfl, ⟨rfl, rfl, rfl, rfl, rfl, rfl, rfl, trivial⟩, (hS.pick [1, 2, 0, 3] rfl rfl)⟩
            · skip
              refine ART.q0 rfl (v := (.rptr [(.int .i64 p0.states), (.int .i64 p0.start), (.list 4 (List.map TEdge.av p0.edges))])) rfl rfl (Light.quiet (opFieldAddrR rfl fieldA_26_1 rfl rfl)) ?_
              refine ART.q0 rfl (v := (.int .i64 p0.states)) rfl rfl (Light.quiet (opLoadR rfl aggA_3 rfl rfl)) ?_
              refine ART.q0 rfl (v := (.ptr b10 1)) rfl rfl (Light.quiet (opFieldAddr rfl fieldA_93_1 rfl rfl)) ?_
              refine ART.q rfl (v := x.a) rfl rfl (hS.aliveC (k := 0) rfl) (Light.quiet (kAt hS (j := 0) rfl rfl aggA_27 rfl rfl)) ?_
              refine ART.q0 rfl (v := (TAuto.av p0)) rfl rfl (Light.quiet (opLoadRA rfl aggA_26 sizeA_26 rfl (nlt rfl) rfl)) ?_
              refine ART.q0 rfl (v := (.int .i64 x29)) rfl rfl (Light.quiet (opMove rfl rfl)) ?_
              refine ART.q0 rfl (v := (.list 1 (List.map (AV.int .i64) a42))) rfl rfl ((qCall rfl rfl call_52 (PO.list (impl_boxLetter_ok ha42)) rfl)) ?_
              refine ART.q0 rfl (v := (.rptr [(.int .i64 p1.states), (.int .i64 p1.start), (.list 4 (List.map TEdge.av p1.edges))])) rfl rfl (Light.quiet (opFieldAddrR rfl fieldA_26_1 rfl rfl)) ?_
              refine ART.q0 rfl (v := (.int .i64 p1.states)) rfl rfl (Light.quiet (opLoadR rfl aggA_3 rfl rfl)) ?_
              refine ART.q0 rfl (v := (.ptr b10 2)) rfl rfl (Light.quiet (opFieldAddr rfl fieldA_93_2 rfl rfl)) ?_
              refine ART.q rfl (v := x.b) rfl rfl (hS.aliveC (k := 0) rfl) (Light.quiet (kAt hS (j := 0) rfl rfl aggA_27 rfl rfl)) ?_
              refine ART.q0 rfl (v := (TAuto.av p1)) rfl rfl (Light.quiet (opLoadRA rfl aggA_26 sizeA_26 rfl (nlt rfl) rfl)) ?_
              refine ART.q0 rfl (v := (.int .i64 x29)) rfl rfl (Light.quiet (opMove rfl rfl)) ?_
              refine ART.fork ?_ ?_
              · skip
                refine ART.x rfl rfl rfl rfl (hCallOR hS rfl rfl call_51 (impl_boxMul_ok ha43) ⟨.same _, .pool (k := 3) rfl hmA, .same _, trivial⟩ (Scal.ints _ _) ?_); rintro v43 G21 hK hS; refine ⟨hK, ?_⟩
                have h43 := hS.one (k := 0) rfl
                refine ART.q0 rfl (v := (.list 1 (List.map (AV.int .i64) a50))) rfl rfl ((qCall rfl rfl call_52 (PO.list (impl_boxLetter_ok ha50)) rfl)) ?_
                refine ART.fork ?_ ?_
                · skip
                  refine ART.x rfl rfl rfl rfl (hCallOR hS rfl rfl call_51 (impl_boxMul_ok ha51) ⟨.same _, .pool (k := 4) rfl hmB, .same _, trivial⟩ (Scal.ints _ _) ?_); rintro v51 G23 hK hS; refine ⟨hK, ?_⟩
                  have h51 := hS.one (k := 0) rfl
                  refine ART.q0 rfl (v := (.agg [.nil, v43, v51])) rfl rfl (Light.quiet (opBuildZ (zs := [.nil, .nil, .nil]) rfl plan_93 zeroA_93 ⟨.inl rfl, .inl rfl, .inl rfl, trivial⟩ (putO h43 rfl rfl (putO h51 rfl rfl rfl)))) ?_
                  refine ART.x rfl rfl rfl rfl (hNewZ hS [.nil, .nil, .nil] rfl zeroA_93 ⟨.inl rfl, .inl rfl, .inl rfl, trivial⟩ ?_); rintro b11 G25 hK hS; refine ⟨hK, ?_⟩
                  refine ART.n rfl rfl rfl rfl rfl (hPutA hS (j := 0) rfl rfl sizeA_93 rfl rfl rfl rfl (allC rfl (allC h43 (allC h51 rfl))) (nlt rfl) ?_); rintro G26 hS
                  refine ART.done ?_
                  exact ⟨b11, v43, v51, h43, h51, ⟨rfl, rfl, rfl, rfl, rfl, rfl, rfl, rfl, rfl, rfl, trivial⟩, hS.pick [0, 2, 1, 3, 4, 5, 6, 7] rfl rfl⟩
                · skip
                  refine ART.x rfl rfl rfl rfl (hNewZ hS [.nil, .nil, .nil] rfl zeroA_93 ⟨.inl rfl, .inl rfl, .inl rfl, trivial⟩ ?_); rintro b11 G27 hK hS; refine ⟨hK, ?_⟩
                  refine ART.x rfl rfl rfl rfl (hCallOR hS rfl rfl call_51 (impl_boxMul_ok ha51) ⟨.same _, .pool (k := 5) rfl hmB, .same _, trivial⟩ (Scal.ints _ _) ?_); rintro v51 G28 hK hS; refine ⟨hK, ?_⟩
                  have h51 := hS.one (k := 0) rfl
                  refine ART.q0 rfl (v := (.agg [.nil, v43, v51])) rfl rfl (Light.quiet (opBuildZ (zs := [.nil, .nil, .nil]) rfl plan_93 zeroA_93 ⟨.inl rfl, .inl rfl, .inl rfl, trivial⟩ (putO h43 rfl rfl (putO h51 rfl rfl rfl)))) ?_
                  refine ART.n rfl rfl rfl rfl rfl (hPutA hS (j := 1) rfl rfl sizeA_93 rfl rfl rfl rfl (allC rfl (allC h43 (allC h51 rfl))) (nlt rfl) ?_); rintro G30 hS
                  refine ART.done ?_
                  exact ⟨b11, v43, v51, h43, h51, ⟨rfl, rfl, rfl, rfl, rfl, rfl, rfl, rfl, rfl, rfl, trivial⟩, hS.pick [1, 2, 0, 3, 4, 5, 6, 7] rfl rfl⟩
              · skip
                refine ART.x rfl rfl rfl rfl (hNewZ hS [.nil, .nil, .nil] rfl zeroA_93 ⟨.inl rfl, .inl rfl, .inl rfl, trivial⟩ ?_); rintro b11 G31 hK hS; refine ⟨hK, ?_⟩
                refine ART.x rfl rfl rfl rfl (hCallOR hS rfl rfl call_51 (impl_boxMul_ok ha43) ⟨.same _, .pool (k := 4) rfl hmA, .same _, trivial⟩ (Scal.ints _ _) ?_); rintro v43 G32 hK hS; refine ⟨hK, ?_⟩
                have h43 := hS.one (k := 0) rfl
                refine ART.q0 rfl (v := (.list 1 (List.map (AV.int .i64) a50))) rfl rfl ((qCall rfl rfl call_52 (PO.list (impl_boxLetter_ok ha50)) rfl)) ?_
                refine ART.x rfl rfl rfl rfl (hCallOR hS rfl rfl call_51 (impl_boxMul_ok ha51) ⟨.same _, .pool (k := 5) rfl hmB, .same _, trivial⟩ (Scal.ints _ _) ?_); rintro v51 G34 hK hS; refine ⟨hK, ?_⟩
                have h51 := hS.one (k := 0) rfl
                refine ART.q0 rfl (v := (.agg [.nil, v43, v51])) rfl rfl (Light.quiet (opBuildZ (zs := [.nil, .nil, .nil]) rfl plan_93 zeroA_93 ⟨.inl rfl, .inl rfl, .inl rfl, trivial⟩ (putO h43 rfl rfl (putO h51 rfl rfl rfl)))) ?_
                refine ART.n rfl rfl rfl rfl rfl (hPutA hS (j := 2) rfl rfl sizeA_93 rfl rfl rfl rfl (allC rfl (allC h43 (allC h51 rfl))) (nlt rfl) ?_); rintro G36 hS
                refine ART.done ?_
                exact ⟨b11, v43, v51, h43, h51, ⟨rfl, rfl, rfl, rfl, rfl, rfl, rfl, rfl, rfl, rfl, trivial⟩, hS.pick [2, 1, 0, 3, 4, 5, 6, 7] rfl rfl⟩
          · skip
            refine AWP.exit ?_
            refine QThen.ext ?_
            refine QThen.ext ?_
            refine QBlock.hit ?_
            obtain rfl := (hz2 _ (someE hF).symm)
            have hF := hR2
            have hF := sumL hF
            refine QBlock.nrm ?_
            refine QThen.nrm ?_
            exact ⟨y2, w2, es2, hes2, ⟨rfl, rfl, rfl, rfl, rfl, trivial⟩, hS, hF⟩
      · skip
        refine AWP.exit ?_
        refine QThen.ext ?_
        refine QThen.ext ?_
        refine QBlock.hit ?_
        obtain rfl := (hz1 _ (someE hF).symm)
        have hF := hR1
        have hF := sumL hF
        refine QThen.nrm ?_
        exact ⟨y1, w1, es1, hes1, ⟨rfl, trivial⟩, hS, hF⟩
  · skip
    refine ART.q0 rfl (v := (.rptr [(.int .i64 p0.states), (.int .i64 p0.start), (.list 4 (List.map TEdge.av p0.edges))])) rfl rfl (Light.quiet (opFieldAddrR rfl fieldA_26_1 rfl rfl)) ?_
    refine ART.q0 rfl (v := (.int .i64 p0.states)) rfl rfl (Light.quiet (opLoadR rfl aggA_3 rfl rfl)) ?_
    refine ART.q0 rfl (v := (.rptr [(.int .i64 p1.states), (.int .i64 p1.start), (.list 4 (List.map TEdge.av p1.edges))])) rfl rfl (Light.quiet (opFieldAddrR rfl fieldA_26_1 rfl rfl)) ?_
    refine ART.q0 rfl (v := (.int .i64 p1.states)) rfl rfl (Light.quiet (opLoadR rfl aggA_3 rfl rfl)) ?_
    refine ART.fork ?_ ?_
    · skip
      refine ART.x rfl rfl rfl rfl (hCallO hS rfl rfl call_50 (impl_boxOne_ok ha14) rfl ?_); rintro v14 G1 hK hS; refine ⟨hK, ?_⟩
      have h14 := hS.one (k := 0) rfl
      refine ART.fork ?_ ?_
      · skip
        refine ART.x rfl rfl rfl rfl (hCallO hS rfl rfl call_50 (impl_boxOne_ok ha17) rfl ?_); rintro v17 G2 hK hS; refine ⟨hK, ?_⟩
        have h17 := hS.one (k := 0) rfl
        refine ART.q0 rfl (v := (.agg [.nil, v14, v17])) rfl rfl (Light.quiet (opBuildZ (zs := [.nil, .nil, .nil]) rfl plan_93 zeroA_93 ⟨.inl rfl, .inl rfl, .inl rfl, trivial⟩ (putO h14 rfl rfl (putO h17 rfl rfl rfl)))) ?_
        refine ART.fork ?_ ?_
        · skip
          refine ART.x rfl rfl rfl rfl (hLit (f := RTw.raw) (zs := [(⟨.nil, v14, v17, [], a14, a17, ⟨rfl, h14, h17⟩⟩ : RTw)]) hS rfl rfl elemA_89 sizeA_93 zeroA_93 rfl rfl rfl rfl (by simp [cells, RTw.raw]) (nlt rfl) ?_); rintro v19 G4 hK hS; refine ⟨hK, ?_⟩
          refine ART.x rfl rfl rfl rfl (hNewZ hS [.nil] rfl zeroA_89 ⟨.inl rfl, trivial⟩ ?_); rintro b6 G5 hK hS; refine ⟨hK, ?_⟩
          refine ART.n rfl rfl rfl rfl rfl (hPut hS (j := 0) rfl rfl sizeA_89 rfl rfl (hS.one (k := 1) rfl) (nlt rfl) ?_); rintro G6 hS
          refine ART.done ?_
          have hS := hS.newPool
          have hS := hS.poolIn (k := 2) rfl
          have hS := hS.poolIn (k := 2) rfl
          have hS := (hNil (s := 1) (f := (AV.int .i64)) hS).toPool
          exact ⟨b6, v19, [(⟨.nil, v14, v17, [], a14, a17, ⟨rfl, h14, h17⟩⟩ : RTw)], rfl, ⟨rfl, rfl, rfl, trivial⟩, hS.pick [2, 1, 0, 3] rfl rfl⟩
        · skip
          refine ART.x rfl rfl rfl rfl (hNewZ hS [.nil] rfl zeroA_89 ⟨.inl rfl, trivial⟩ ?_); rintro b6 G7 hK hS; refine ⟨hK, ?_⟩
          refine ART.x rfl rfl rfl rfl (hLit (f := RTw.raw) (zs := [(⟨.nil, v14, v17, [], a14, a17, ⟨rfl, h14, h17⟩⟩ : RTw)]) hS rfl rfl elemA_89 sizeA_93 zeroA_93 rfl rfl rfl rfl (by simp [cells, RTw.raw]) (nlt rfl) ?_); rintro v19 G8 hK hS; refine ⟨hK, ?_⟩
          refine ART.n rfl rfl rfl rfl rfl (hPut hS (j := 1) rfl rfl sizeA_89 rfl rfl (hS.one (k := 0) rfl) (nlt rfl) ?_); rintro G9 hS
          refine ART.done ?_
          have hS := hS.newPool
          have hS := hS.poolIn (k := 2) rfl
          have hS := hS.poolIn (k := 2) rfl
          have hS := (hNil (s := 1) (f := (AV.int .i64)) hS).toPool
          exact ⟨b6, v19, [(⟨.nil, v14, v17, [], a14, a17, ⟨rfl, h14, h17⟩⟩ : RTw)], rfl, ⟨rfl, rfl, rfl, trivial⟩, hS.pick [1, 2, 0, 3] rfl rfl⟩
      · skip
        refine ART.x rfl rfl rfl rfl (hNewZ hS [.nil] rfl zeroA_89 ⟨.inl rfl, trivial⟩ ?_); rintro b6 G10 hK hS; refine ⟨hK, ?_⟩
        refine ART.x rfl rfl rfl rfl (hCallO hS rfl rfl call_50 (impl_boxOne_ok ha17) rfl ?_); rintro v17 G11 hK hS; refine ⟨hK, ?_⟩
        have h17 := hS.one (k := 0) rfl
        refine ART.q0 rfl (v := (.agg [.nil, v14, v17])) rfl rfl (Light.quiet (opBuildZ (zs := [.nil, .nil, .nil]) rfl plan_93 zeroA_93 ⟨.inl rfl, .inl rfl, .inl rfl, trivial⟩ (putO h14 rfl rfl (putO h17 rfl rfl rfl)))) ?_
        refine ART.x rfl rfl rfl rfl (hLit (f := RTw.raw) (zs := [(⟨.nil, v14, v17, [], a14, a17, ⟨rfl, h14, h17⟩⟩ : RTw)]) hS rfl rfl elemA_89 sizeA_93 zeroA_93 rfl rfl rfl rfl (by simp [cells, RTw.raw]) (nlt rfl) ?_); rintro v19 G13 hK hS; refine ⟨hK, ?_⟩
        refine ART.n rfl rfl rfl rfl rfl (hPut hS (j := 2) rfl rfl sizeA_89 rfl rfl (hS.one (k := 0) rfl) (nlt rfl) ?_); rintro G14 hS
        refine ART.done ?_
        have hS := hS.newPool
        have hS := hS.poolIn (k := 1) rfl
        have hS := hS.poolIn (k := 2) rfl
        have hS := (hNil (s := 1) (f := (AV.int .i64)) hS).toPool
        exact ⟨b6, v19, [(⟨.nil, v14, v17, [], a14, a17, ⟨rfl, h14, h17⟩⟩ : RTw)], rfl, ⟨rfl, rfl, rfl, trivial⟩, hS.pick [1, 2, 0, 3] rfl rfl⟩
    · skip
      refine ART.x rfl rfl rfl rfl (hNewZ hS [.nil] rfl zeroA_89 ⟨.inl rfl, trivial⟩ ?_); rintro b6 G15 hK hS; refine ⟨hK, ?_⟩
      refine ART.x rfl rfl rfl rfl (hCallO hS rfl rfl call_50 (impl_boxOne_ok ha14) rfl ?_); rintro v14 G16 hK hS; refine ⟨hK, ?_⟩
      have h14 := hS.one (k := 0) rfl
      refine ART.x rfl rfl rfl rfl (hCallO hS rfl rfl call_50 (impl_boxOne_ok ha17) rfl ?_); rintro v17 G17 hK hS; refine ⟨hK, ?_⟩
      have h17 := hS.one (k := 0) rfl
      refine ART.q0 rfl (v := (.agg [.nil, v14, v17])) rfl rfl (Light.quiet (opBuildZ (zs := [.nil, .nil, .nil]) rfl plan_93 zeroA_93 ⟨.inl rfl, .inl rfl, .inl rfl, trivial⟩ (putO h14 rfl rfl (putO h17 rfl rfl rfl)))) ?_
      refine ART.x rfl rfl rfl rfl (hLit (f := RTw.raw) (zs := [(⟨.nil, v14, v17, [], a14, a17, ⟨rfl, h14, h17⟩⟩ : RTw)]) hS rfl rfl elemA_89 sizeA_93 zeroA_93 rfl rfl rfl rfl (by simp [cells, RTw.raw]) (nlt rfl) ?_); rintro v19 G19 hK hS; refine ⟨hK, ?_⟩
      refine ART.n rfl rfl rfl rfl rfl (hPut hS (j := 3) rfl rfl sizeA_89 rfl rfl (hS.one (k := 0) rfl) (nlt rfl) ?_); rintro G20 hS
      refine ART.done ?_
      have hS := hS.newPool
      have hS := hS.poolIn (k := 1) rfl
      have hS := hS.poolIn (k := 1) rfl
      have hS := (hNil (s := 1) (f := (AV.int .i64)) hS).toPool
      exact ⟨b6, v19, [(⟨.nil, v14, v17, [], a14, a17, ⟨rfl, h14, h17⟩⟩ : RTw)], rfl, ⟨rfl, rfl, rfl, trivial⟩, hS.pick [1, 2, 0, 3] rfl rfl⟩

end Go.Proofs.Ytcmbbpdepobnlaa
