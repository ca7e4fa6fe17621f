/- The program's boxes with rows of their own, and how they are marked. -/
import Derived.Test.YtcmbbpdepobnlaaH1
import Derived.Test.YtcmbbpdepobnlaaMBoxesOf
namespace Go.Proofs.Ytcmbbpdepobnlaa
open Go Go.RowKit E
set_option linter.unusedVariables false
structure RBx where
  w : AV
  b : AV
  qw : List Int
  qb : List Int
  h : w.one = true ∧ b.one = true
instance : Inhabited RBx := ⟨⟨.nil, .nil, [], [], ⟨rfl, rfl⟩⟩⟩
noncomputable def RBx.raw (e : RBx) : AV := .agg [e.w, e.b]
noncomputable def RBx.t (e : RBx) : TBoxed := ⟨e.qw, e.qb⟩
noncomputable def RBx.rows (e : RBx) : List (AV × List AV) := [(e.w, e.qw.map (AV.int .i64)), (e.b, e.qb.map (AV.int .i64))]
theorem RBx.ones (e : RBx) : (cells e.raw).all AV.one = true := allC e.h.1 (allC e.h.2 rfl)
theorem RBx.mW {es : List RBx} {x : RBx} (h : x ∈ es) : (x.w, x.qw.map (AV.int .i64)) ∈ es.flatMap RBx.rows := List.mem_flatMap.mpr ⟨x, h, by simp [RBx.rows]⟩
theorem RBx.mB {es : List RBx} {x : RBx} (h : x ∈ es) : (x.b, x.qb.map (AV.int .i64)) ∈ es.flatMap RBx.rows := List.mem_flatMap.mpr ⟨x, h, by simp [RBx.rows]⟩
theorem RBx.ras {L : List Res} {k kp : Nat} {w : AV} {es : List RBx} (hk : L[k]? = some (.row 2 w (es.map RBx.raw))) (hp : L[kp]? = some (.pool (es.flatMap RBx.rows))) : RAS L w (.list 2 ((es.map RBx.t).map TBoxed.av)) := by
  refine RAS.rowL hk (by simp) (fun y hy => by simp only [List.mem_map] at hy; obtain ⟨_, ⟨x, _, rfl⟩, rfl⟩ := hy; rfl) ?_
  have key : ∀ l : List RBx, (∀ x ∈ l, x ∈ es) → RASs L (flat (l.map RBx.raw)) (flat ((l.map RBx.t).map TBoxed.av)) := by
    intro l
    induction l with
    | nil => intro _; exact trivial
    | cons x l ih =>
      intro h
      have hx := h x List.mem_cons_self
      exact ⟨.pool hp (RBx.mW hx), .pool hp (RBx.mB hx), ih fun y hy => h y (List.mem_cons_of_mem _ hy)⟩
  exact key es fun x h => h
noncomputable def toBx (e : RTw) : RBx := ⟨e.w, e.a, e.qw, e.qa, e.h.1, e.h.2.1⟩
theorem toBx_perm : ∀ es : List RTw, ∃ R, (es.flatMap RTw.rows).Perm ((es.map toBx).flatMap RBx.rows ++ R)
  | [] => ⟨[], List.Perm.refl _⟩
  | x :: l => by
    obtain ⟨R, h⟩ := toBx_perm l
    refine ⟨(x.b, x.qb.map (AV.int .i64)) :: R, ?_⟩
    show (RTw.rows x ++ l.flatMap RTw.rows).Perm ((RBx.rows (toBx x) ++ (l.map toBx).flatMap RBx.rows) ++ _)
    rw [List.append_assoc]
    refine List.Perm.cons _ (List.Perm.cons _ ?_)
    exact (List.Perm.cons _ h).trans List.perm_middle.symm
theorem ix_take {α : Type} [Inhabited α] {es : List α} {i : Int} {x : α} (h : ix es i = some x) : es.take (i.toNat + 1) = es.take i.toNat ++ [x] := by
  obtain ⟨h0, h1, h2⟩ := ixE h
  have hi : i.toNat < es.length := by omega
  rw [List.take_succ_eq_append_getElem hi]
  congr 2
  rw [← h2, List.getD_eq_getElem?_getD, List.getElem?_eq_getElem hi]; rfl
set_option maxRecDepth 10000 in
theorem impl_BoxesOf_own {p0 : TAuto} {r : ((List TBoxed) × Bool)} (hF : impl_BoxesOf p0 = some r) : HS Try.prog 25 [(TAuto.av p0)] [] fun v L' => ∃ (o : AV) (es : List RBx), v = .tup [o, .bool r.2] ∧ es.map RBx.t = r.1 ∧ L' = [.row 2 o (es.map RBx.raw), .pool (es.flatMap RBx.rows)] := by
  intro H S hS
  refine HC.enter Try.func25 rfl Try.ntmps25 (by simp) ?_
  simp only [List.nil_append] at hS
  unfold impl_BoxesOf at hF
  refine AWP.seqR rfl ?_
  refine ASL.q (v := (.rptr [(.int .i64 p0.letters), (.int .i64 p0.states), (.int .i64 p0.start), (.list 4 (List.map TEdge.av p0.edges))])) rfl rfl ((qBoxI (v := (TAuto.av p0)) rfl rfl rfl rfl)) ?_
  refine ASL.q (v := .nil) rfl rfl (Light.quiet (opAssign rfl rfl)) ?_
  refine ASL.q (v := (.bool false)) rfl rfl (Light.quiet (opAssign rfl rfl)) ?_
  refine ASL.done ?_
  refine AWP.seq ?_
  refine AWP.seqR rfl ?_
  refine ASL.q (v := (.rptr [(.int .i64 p0.states), (.int .i64 p0.start), (.list 4 (List.map TEdge.av p0.edges))])) rfl rfl (Light.quiet (opFieldAddrR rfl fieldA_26_1 rfl rfl)) ?_
  refine ASL.q (v := (.int .i64 p0.states)) rfl rfl (Light.quiet (opLoadR rfl aggA_3 rfl rfl)) ?_
  refine ASL.q (v := (.bool (impl_isBoxed p0.states))) rfl rfl ((qCall rfl rfl call_48 (impl_isBoxed_ok p0.states) rfl)) ?_
  refine ASL.q (v := (.bool (!(impl_isBoxed p0.states)))) rfl rfl (Light.quiet (opNot rfl rfl)) ?_
  obtain ⟨c13, hc13, hF⟩ := bndE hF
  refine ASL.q (v := (.bool c13)) rfl rfl ((Quiet.cast (Light.quiet (opMove rfl rfl)) (congrArg AV.bool hc13.symm))) ?_
  refine ASL.g (v := (TAuto.av p0)) (.bool c13) false rfl (wF _) rfl (fun hG => by have q0 := gN hG; subst q0; exact Light.quiet (opLoadRA rfl aggA_26 sizeA_26 rfl (nlt rfl) rfl)) ?_
  obtain ⟨a15, ha15, hF⟩ := bindE hF
  refine ASL.g (v := (.bool a15)) (.bool c13) false rfl (wF _) rfl (fun hG => by have q0 := gN hG; subst q0; exact (qCall rfl rfl call_46 (impl_AutoOk_ok (whenE ha15)) rfl)) ?_
  refine ASL.g (v := (.bool (!a15))) (.bool c13) false rfl (wF _) rfl (fun hG => by have q0 := gN hG; subst q0; exact Light.quiet (opNot rfl rfl)) ?_
  refine ASL.q (v := (.bool (c13 || (!a15)))) rfl rfl (Light.quiet (opPick (b := c13) rfl rfl (by cases c13 <;> rfl))) ?_
  refine ASL.done ?_
  refine AWP.ifB hF rfl (fun hc1 hF => ?_) (fun hc1 hF => ?_)
  · skip
    refine AWP.seqR rfl ?_
    refine ASL.q (v := .nil) rfl rfl (Light.quiet (opAssign rfl rfl)) ?_
    refine ASL.q (v := (.bool false)) rfl rfl (Light.quiet (opAssign rfl rfl)) ?_
    refine ASL.done ?_
    refine AWP.ret ?_
    refine QThen.rt ?_
    obtain rfl := someE hF
    exact QRet.many (vs := [.nil, (.bool false)]) ⟨rfl, rfl, trivial⟩ (by simp) ⟨_, ⟨.nil, [], rfl, rfl, rfl⟩, hNil (s := 2) (f := RBx.raw) hS.newPool⟩
  · skip
    refine AWP.skip ?_
    refine QThen.nrm ?_
    refine AWP.seqR rfl ?_
    refine ASL.q (v := (TAuto.av p0)) rfl rfl (Light.quiet (opLoadRA rfl aggA_26 sizeA_26 rfl (nlt rfl) rfl)) ?_
    refine ASL.q (v := (TAuto.av p0)) rfl rfl (Light.quiet (opLoadRA rfl aggA_26 sizeA_26 rfl (nlt rfl) rfl)) ?_
    obtain ⟨a21, ha21, hF⟩ := bindE hF
    refine ASL.x rfl rfl (hCallS hS [0] (F := [.snap S]) rfl rfl rfl call_67 (impl_twins_own ha21) rfl rfl ?_); rintro _ _ G1 ⟨o, es, rfl, hes, rfl⟩ hS
    refine ASL.q (v := (.tup [o, (.bool a21.2)])) rfl rfl (Light.quiet (opMove rfl rfl)) ?_
    refine ASL.q (v := o) rfl rfl (Light.quiet (opExtract rfl rfl rfl)) ?_
    refine ASL.q (v := (.bool a21.2)) rfl rfl (Light.quiet (opExtract rfl rfl rfl)) ?_
    refine ASL.q (v := o) rfl rfl (Light.quiet (opAssign rfl rfl)) ?_
    refine ASL.q (v := (.bool a21.2)) rfl rfl (Light.quiet (opAssign rfl rfl)) ?_
    refine ASL.done ?_
    have hlen : es.length = a21.1.length := by rw [← hes, List.length_map]
    refine AWP.seq ?_
    refine AWP.seqR rfl ?_
    refine ASL.q (v := (.bool a21.2)) rfl rfl (Light.quiet (opMove rfl rfl)) ?_
    refine ASL.q (v := (.bool (!a21.2))) rfl rfl (Light.quiet (opNot rfl rfl)) ?_
    refine ASL.done ?_
    refine AWP.ifB hF rfl (fun hc2 hF => ?_) (fun hc2 hF => ?_)
    · skip
      refine AWP.seqR rfl ?_
      refine ASL.q (v := .nil) rfl rfl (Light.quiet (opAssign rfl rfl)) ?_
      refine ASL.q (v := (.bool false)) rfl rfl (Light.quiet (opAssign rfl rfl)) ?_
      refine ASL.done ?_
      refine AWP.ret ?_
      refine QThen.rt ?_
      obtain rfl := someE hF
      have hS := hNil (s := 2) (f := RBx.raw) (hS.pick [2] (L' := [.snap S]) rfl rfl).newPool
      exact QRet.many (vs := [.nil, (.bool false)]) ⟨rfl, rfl, trivial⟩ (by simp) ⟨_, ⟨.nil, [], rfl, rfl, rfl⟩, hS⟩
    · skip
      refine AWP.skip ?_
      refine QThen.nrm ?_
      refine AWP.seqR rfl ?_
      have hS := hNil (s := 2) (f := RBx.raw) hS
      refine ASL.q (v := .nil) rfl rfl (Light.quiet (opAssign rfl rfl)) ?_
      refine ASL.done ?_
      refine AWP.seqM (fun e H => ∃ w5 : AV, E.Told e [(6, w5)] ∧ E.Sep H [.row 2 w5 ((es.map toBx).map RBx.raw), .row 3 o (es.map RTw.raw), .pool (es.flatMap RTw.rows), .snap S] ∧ impl_BoxesOf.k0 ((es.map toBx).map RBx.t) = some r) ?_ ?_
      · rintro e0 G8 ⟨w5, hT, hS, hF⟩; refine AWP.only _ hT ?_; unfold impl_BoxesOf.k0 at hF
        refine AWP.seqR rfl ?_
        refine ASL.q (v := w5) rfl rfl (Light.quiet (opMove rfl rfl)) ?_
        refine ASL.q (v := w5) rfl rfl (Light.quiet (opAssign rfl rfl)) ?_
        refine ASL.q (v := (.bool true)) rfl rfl (Light.quiet (opAssign rfl rfl)) ?_
        refine ASL.done ?_
        refine AWP.ret ?_
        obtain rfl := someE hF
        obtain ⟨R, hR⟩ := toBx_perm es
        have hS := ((hS.pick (L' := [.pool (es.flatMap RTw.rows), .row 2 w5 ((es.map toBx).map RBx.raw), .snap S]) [2, 0, 3] rfl rfl).permPool hR).leftPool
        exact QRet.many (vs := [w5, (.bool true)]) ⟨rfl, rfl, trivial⟩ (by simp) ⟨_, ⟨w5, es.map toBx, rfl, rfl, rfl⟩, hS.pick [1, 0, 2] rfl rfl⟩
      · skip
        refine AWP.seqR rfl ?_
        refine ASL.q (v := o) rfl rfl (Light.quiet (opMove rfl rfl)) ?_
        refine ASL.q (v := (.int .i64 (a21.1.length : Int))) rfl rfl (Quiet.cast (Light.quiet (kLen hS (j := 1) rfl rfl rfl rfl lenT_89 rfl)) (by rw [hlen])) ?_
        refine ASL.q (v := (.int .i64 0)) rfl rfl (Light.quiet (opMove rfl rfl)) ?_
        refine ASL.done ?_
        refine AWP.block ?_
        obtain ⟨o15, hL14, hR16⟩ := bindE hF
        refine AWP.loopI (ω := AV) hL14 (fun s w => 0 ≤ s.2 ∧ s.2 ≤ es.length ∧ s.1 = ((es.take s.2.toNat).map toBx).map RBx.t) (fun s w => [(6, w), (26, o), (27, (.int .i64 (a21.1.length : Int))), (28, (.int .i64 s.2))]) (fun s w => [.row 2 w (((es.take s.2.toNat).map toBx).map RBx.raw), .row 3 o (es.map RTw.raw), .pool (es.flatMap RTw.rows), .snap S]) .nil ⟨by simp, by simp, by simp⟩ ⟨rfl, rfl, rfl, rfl, trivial⟩ hS ?_
        rintro ⟨y9, i⟩ w10 G17 ⟨hi0, hi1, hy⟩ hS x12 hF hx13
        dsimp only at hi0 hi1 hy hS ⊢
        have hF : impl_BoxesOf.b0 a21 y9 i = some x12 := hF; unfold impl_BoxesOf.b0 at hF
        refine AWP.seqR rfl ?_
        refine ASL.q (v := (.bool (decide (i < ((a21.1.length : Int)))))) rfl rfl (Light.quiet (opInt rfl rfl rfl rfl)) ?_
        refine ASL.done ?_
        refine AWP.seq ?_
        refine AWP.ifP hF rfl (fun hc18 hF => ?_) (fun hc18 hF => ?_)
        · skip
          refine AWP.skip ?_
          refine QThen.nrm ?_
          refine AWP.seq ?_
          refine AWP.block ?_
          refine AWP.seqR rfl ?_
          obtain ⟨a30, ha30, hF⟩ := bindE hF
          rw [← hes] at ha30
          obtain ⟨x, hx, hxa, hxm⟩ := ix_map ha30
          obtain rfl := hxa
          refine ASL.q (v := (ptrTo o i.toNat 3)) rfl rfl (Light.quiet (kIxOx (f := RTw.raw) hS (j := 1) rfl hx rfl rfl rfl elemA_89 sizeA_93)) ?_
          refine ASL.q (v := (.agg [x.w, x.a, x.b])) rfl rfl (Light.quiet (kLdA (f := RTw.raw) hS (j := 1) rfl hx rfl aggA_93 sizeA_93 rfl rfl)) ?_
          refine ASL.x rfl rfl (hNewZ hS [.nil, .nil, .nil] rfl zeroA_93 ⟨.inl rfl, .inl rfl, .inl rfl, trivial⟩ ?_); rintro b8 G19 hK hS
          refine ASL.n rfl rfl (hPutA hS (j := 0) rfl rfl sizeA_93 rfl rfl rfl rfl x.ones (nlt rfl) ?_); rintro G21 hS
          refine ASL.done ?_
          refine AWP.lastR rfl ?_
          refine ASL.q (v := w10) rfl rfl (Light.quiet (opMove rfl rfl)) ?_
          refine ASL.q (v := (.ptr b8 0)) rfl rfl (Light.quiet (opFieldAddr rfl fieldA_93_0 rfl rfl)) ?_
          refine ASL.q (v := x.w) rfl rfl (Light.quiet (kAt hS (j := 0) rfl rfl aggA_27 rfl rfl)) ?_
          refine ASL.q (v := (.ptr b8 1)) rfl rfl (Light.quiet (opFieldAddr rfl fieldA_93_1 rfl rfl)) ?_
          refine ASL.q (v := x.a) rfl rfl (Light.quiet (kAt hS (j := 0) rfl rfl aggA_27 rfl rfl)) ?_
          refine ASL.q (v := (.agg [x.w, x.a])) rfl rfl (Light.quiet (opBuildZ (zs := [.nil, .nil]) rfl plan_51 zeroA_51 ⟨.inl rfl, .inl rfl, trivial⟩ (putO x.h.1 rfl rfl (putO x.h.2.1 rfl rfl rfl)))) ?_
          refine ASL.q (v := (.list 2 (List.map RBx.raw [toBx x]))) rfl rfl ((qLit (xs := [(.agg [x.w, x.a])]) rfl elemA_47 sizeA_51 zeroA_51 rfl rfl rfl rfl (by simp [cells]) (nlt rfl))) ?_
          obtain ⟨z39, hz39, hF⟩ := bindE hF
          rw [hy] at hz39
          obtain ⟨happ, hz⟩ := app_map (xs := [toBx x]) (g := RBx.t) hz39
          refine ASL.x rfl rfl (hApp (f := RBx.raw) (ws := [toBx x]) hS (j := 1) rfl happ rfl elemA_47 rfl sizeA_51 bytesA_51 zeroA_51 rfl rfl rfl RBx.ones ?_); rintro v39 G22 hS
          refine ASL.q (v := v39) rfl rfl (Light.quiet (opAssign rfl rfl)) ?_
          refine ASL.done ?_
          obtain ⟨g1, g2, _⟩ := appE happ
          have hi2 : i < es.length := by rw [hlen]; exact hc18
          have hW : W (i + 1) = i + 1 := by
            simp only [List.length_map, List.length_take] at g2
            exact W_eq (by omega) (by omega)
          have htk : es.take (i + 1).toNat = es.take i.toNat ++ [x] := by rw [show (i + 1).toNat = i.toNat + 1 by omega]; exact ix_take hx
          refine QBlock.nrm ?_
          refine QThen.nrm ?_
          refine AWP.lastR rfl ?_
          refine ASL.q (v := (.int .i64 (W (i + 1)))) rfl rfl (Light.quiet (opInt rfl rfl rfl rfl)) ?_
          refine ASL.q (v := (.int .i64 (W (i + 1)))) rfl rfl (Light.quiet (opMove rfl rfl)) ?_
          refine ASL.done ?_
          refine QThen.nrm ?_
          rw [hW]
          rw [hW] at hF
          refine ⟨(z39, i + 1), v39, (someE hF).symm, ⟨by dsimp only; omega, by dsimp only; omega, ?_⟩, ⟨rfl, rfl, rfl, rfl, trivial⟩, ?_⟩
          · dsimp only; rw [hz, htk, List.map_append (f := toBx)]; rfl
          · dsimp only; rw [htk, List.map_append (f := toBx)]; exact hS.pick [1, 2, 3, 4] rfl rfl
        · skip
          have hie : i = es.length := by omega
          refine AWP.exit ?_
          refine QThen.ext ?_
          refine QThen.ext ?_
          refine QBlock.hit ?_
          obtain rfl := (hx13 _ (someE hF).symm)
          have hF := hR16
          refine QThen.nrm ?_
          rw [hie, Int.toNat_natCast, List.take_length] at hS hy
          rw [hy] at hF
          exact ⟨w10, ⟨rfl, trivial⟩, hS, hF⟩
-- marks
noncomputable def totR : List RBx → Nat
  | [] => 0
  | x :: r => x.qw.length + x.qb.length + totR r
noncomputable def mark1 (c : Nat) (x : RBx) : RBx := ⟨x.w, x.b, markIL c x.qw, markIL (c + x.qw.length) x.qb, x.h⟩
noncomputable def markR (c : Nat) : List RBx → List RBx
  | [] => []
  | x :: r => mark1 c x :: markR (c + (x.qw.length + x.qb.length)) r
theorem mid_perm (pre r : List RBx) (x : RBx) : ((pre ++ x :: r).flatMap RBx.rows).Perm (x.rows ++ (pre ++ r).flatMap RBx.rows) := (List.perm_middle (l₁ := pre) (a := x) (l₂ := r)).flatMap_right RBx.rows
theorem mid_raw (pre r : List RBx) (x y : RBx) (h : y.raw = x.raw) : ((pre ++ [y]) ++ r).map RBx.raw = (pre ++ x :: r).map RBx.raw := by simp [h]
set_option maxRecDepth 10000 in
theorem laws_markBoxedS_own {o : AV} {rs : List RBx} {c0 : Nat} (hr : rs.length ≤ 1000000) (ht : totR rs ≤ 1000000) (hc : c0 ≤ 1000000) : HS Try.prog 32 [o, (.int .i64 (c0 : Int))] [.row 2 o (rs.map RBx.raw), .pool (rs.flatMap RBx.rows)] fun v L' => v = (.int .i64 ((c0 + totR rs : Nat) : Int)) ∧ L' = [.row 2 o ((markR c0 rs).map RBx.raw), .pool ((markR c0 rs).flatMap RBx.rows)] := by
  intro H S hS
  refine HC.enter Try.func32 rfl Try.ntmps32 (by simp) ?_
  simp only [List.cons_append, List.nil_append] at hS
  refine AWP.seqR rfl ?_
  refine ASL.q (v := (.int .i64 0)) rfl rfl (Light.quiet (opAssign rfl rfl)) ?_
  refine ASL.done ?_
  refine AWP.seqM (fun e H => E.Told e [(1, (.int .i64 ((c0 + totR rs : Nat) : Int)))] ∧ E.Sep H [.row 2 o ((markR c0 rs).map RBx.raw), .pool ((markR c0 rs).flatMap RBx.rows), .snap S]) ?_ ?_
  · rintro e0 G1 ⟨hT, hS⟩; refine AWP.only _ hT ?_
    refine AWP.seqR rfl ?_
    refine ASL.q (v := (.int .i64 ((c0 + totR rs : Nat) : Int))) rfl rfl (Light.quiet (opMove rfl rfl)) ?_
    refine ASL.q (v := (.int .i64 ((c0 + totR rs : Nat) : Int))) rfl rfl (Light.quiet (opAssign rfl rfl)) ?_
    refine ASL.done ?_
    refine AWP.ret ?_
    exact QRet.sole (v := (.int .i64 ((c0 + totR rs : Nat) : Int))) ⟨rfl, trivial⟩ ⟨_, ⟨rfl, rfl⟩, hS⟩
  · skip
    refine AWP.seqR rfl ?_
    refine ASL.q (v := (.int .i64 0)) rfl rfl (Light.quiet (opAssign rfl rfl)) ?_
    refine ASL.done ?_
    refine AWP.block ?_
    refine AWP.loopL (α := List RBx × List RBx × Nat) (fun a => [(0, o), (1, (.int .i64 (a.2.2 : Int))), (5, (.int .i64 (a.1.length : Int)))]) (fun a H => E.Sep H [.row 2 o ((a.1 ++ a.2.1).map RBx.raw), .pool ((a.1 ++ a.2.1).flatMap RBx.rows), .snap S]) (fun a => a.2.1.length)
      (fun a => a.1.length + a.2.1.length ≤ 1000000 ∧ a.2.2 + totR a.2.1 ≤ 2000000 ∧ totR a.2.1 ≤ 1000000 ∧ a.1 ++ markR a.2.2 a.2.1 = markR c0 rs ∧ a.2.2 + totR a.2.1 = c0 + totR rs) ([], rs, c0) ⟨by simp; omega, by dsimp only; omega, ht, rfl, rfl⟩ ⟨rfl, rfl, rfl, trivial⟩ hS ?_
    rintro ⟨pre, suf, c⟩ G2 ⟨hl, hcb, htb, hm, hcc⟩ hS
    dsimp only at hl hcb htb hm hcc hS ⊢
    refine AWP.seq ?_
    refine AWP.seqR rfl ?_
    refine ASL.q (v := (.int .i64 (pre.length : Int))) rfl rfl (Light.quiet (opMove rfl rfl)) ?_
    refine ASL.q (v := o) rfl rfl (Light.quiet (opMove rfl rfl)) ?_
    refine ASL.q (v := (.int .i64 ((pre ++ suf).length : Int))) rfl rfl (Light.quiet (kLen hS (j := 0) rfl rfl rfl rfl lenT_47 rfl)) ?_
    refine ASL.q (v := (.bool (decide ((pre.length : Int) < ((pre ++ suf).length : Int))))) rfl rfl (Light.quiet (opInt rfl rfl rfl rfl)) ?_
    refine ASL.done ?_
    cases suf with
    | nil =>
      refine AWP.condF (by show AV.bool _ = _; rw [decide_eq_false (by simp)]) ?_
      refine AWP.exit ?_
      refine QThen.ext ?_
      refine QThen.ext ?_
      refine QBlock.hit ?_
      refine QThen.nrm ?_
      rw [List.append_nil] at hS
      have hm : pre = markR c0 rs := by rw [← hm]; simp [markR]
      have hcc : c = c0 + totR rs := by rw [← hcc]; simp [totR]
      rw [← hm, ← hcc]
      exact ⟨⟨rfl, trivial⟩, hS⟩
    | cons x r =>
      have hx : ix (pre ++ x :: r) (pre.length : Int) = some x := by
        unfold ix; rw [if_pos ⟨by omega, by simp; omega⟩, Int.toNat_natCast]; simp
      have htx : totR (x :: r) = x.qw.length + x.qb.length + totR r := rfl
      rw [htx] at hcb htb hcc
      rw [List.length_cons] at hl
      refine AWP.condT (by show AV.bool _ = _; rw [decide_eq_true (by simp; omega)]) ?_
      refine AWP.skip ?_
      refine QThen.nrm ?_
      refine AWP.seq ?_
      refine AWP.block ?_
      refine AWP.seqR rfl ?_
      refine ASL.q (v := o) rfl rfl (Light.quiet (opMove rfl rfl)) ?_
      refine ASL.q (v := (.int .i64 (pre.length : Int))) rfl rfl (Light.quiet (opMove rfl rfl)) ?_
      refine ASL.q (v := (ptrTo o (pre.length : Int).toNat 2)) rfl rfl (Light.quiet (kIxOx (f := RBx.raw) hS (j := 0) rfl hx rfl rfl rfl elemA_47 sizeA_51)) ?_
      refine ASL.q (v := (ptrOff o (pre.length : Int).toNat 2 0)) rfl rfl (Light.quiet (kFldO (g := RBx.raw) (p := 0) hS (j := 0) rfl hx rfl fieldA_51_0 rfl)) ?_
      refine ASL.q (v := x.w) rfl rfl (Light.quiet (kLdP (f := RBx.raw) hS (j := 0) rfl hx rfl aggA_27 rfl rfl)) ?_
      refine ASL.q (v := (.int .i64 (c : Int))) rfl rfl (Light.quiet (opMove rfl rfl)) ?_
      have hS := ((hS.pick (L' := [.pool ((pre ++ x :: r).flatMap RBx.rows), .row 2 o ((pre ++ x :: r).map RBx.raw), .snap S]) [1, 0, 2] rfl rfl).permPool (mid_perm pre r x)).ofPool
      refine ASL.x rfl rfl (hCallS hS [0, 1, 2, 3] (F := [.pool ((x.b, x.qb.map (AV.int .i64)) :: (pre ++ r).flatMap RBx.rows), .row 2 o ((pre ++ x :: r).map RBx.raw), .snap S]) rfl rfl rfl (by kernel_rfl) (laws_markIntS_ok (markI_from x.qw c (by omega) (by omega))) rfl rfl ?_); rintro _ _ G3 ⟨rfl, rfl⟩ hS
      refine ASL.q (v := (.int .i64 ((c + x.qw.length : Nat) : Int))) rfl rfl (Light.quiet (opAssign rfl rfl)) ?_
      refine ASL.done ?_
      refine AWP.lastR rfl ?_
      refine ASL.q (v := o) rfl rfl (Light.quiet (opMove rfl rfl)) ?_
      refine ASL.q (v := (.int .i64 (pre.length : Int))) rfl rfl (Light.quiet (opMove rfl rfl)) ?_
      refine ASL.q (v := (ptrTo o (pre.length : Int).toNat 2)) rfl rfl (Light.quiet (kIxOx (f := RBx.raw) hS (j := 2) rfl hx rfl rfl rfl elemA_47 sizeA_51)) ?_
      refine ASL.q (v := (ptrOff o (pre.length : Int).toNat 2 1)) rfl rfl (Light.quiet (kFldO (g := RBx.raw) (p := 1) hS (j := 2) rfl hx rfl fieldA_51_1 rfl)) ?_
      refine ASL.q (v := x.b) rfl rfl (Light.quiet (kLdP (f := RBx.raw) hS (j := 2) rfl hx rfl aggA_27 rfl rfl)) ?_
      refine ASL.q (v := (.int .i64 ((c + x.qw.length : Nat) : Int))) rfl rfl (Light.quiet (opMove rfl rfl)) ?_
      have hS := (hS.pick (L' := [.pool ((x.b, x.qb.map (AV.int .i64)) :: (pre ++ r).flatMap RBx.rows), .row 1 x.w ((markIL c x.qw).map (AV.int .i64)), .row 2 o ((pre ++ x :: r).map RBx.raw), .snap S]) [1, 0, 2, 3] rfl rfl).ofPool
      refine ASL.x rfl rfl (hCallS hS [0, 1, 2, 3, 4] (F := [.pool ((pre ++ r).flatMap RBx.rows), .row 1 x.w ((markIL c x.qw).map (AV.int .i64)), .row 2 o ((pre ++ x :: r).map RBx.raw), .snap S]) rfl rfl rfl (by kernel_rfl) (laws_markIntS_ok (markI_from x.qb (c + x.qw.length) (by omega) (by omega))) rfl rfl ?_); rintro _ _ G4 ⟨rfl, rfl⟩ hS
      refine ASL.q (v := (.int .i64 ((c + x.qw.length + x.qb.length : Nat) : Int))) rfl rfl (Light.quiet (opAssign rfl rfl)) ?_
      refine ASL.done ?_
      have hS := (hS.pick (L' := [.pool ((pre ++ r).flatMap RBx.rows), .row 1 x.w ((markIL c x.qw).map (AV.int .i64)), .row 1 x.b ((markIL (c + x.qw.length) x.qb).map (AV.int .i64)), .row 2 o ((pre ++ x :: r).map RBx.raw), .snap S]) [1, 2, 0, 3, 4] rfl rfl)
      have hS := ((hS.poolIn (k := 1) rfl).poolIn (k := 0) rfl).permPool (qs := ((pre ++ [mark1 c x]) ++ r).flatMap RBx.rows) (by rw [List.append_assoc]; exact (mid_perm pre r (mark1 c x)).symm)
      have hW : IntKind.i64.wrap ((pre.length : Int) + 1) = ((pre ++ [mark1 c x]).length : Int) := by rw [W_eq (by omega) (by omega), List.length_append, List.length_singleton]; rfl
      refine QBlock.nrm ?_
      refine QThen.nrm ?_
      refine AWP.lastR rfl ?_
      refine ASL.q (v := (.int .i64 (pre.length : Int))) rfl rfl (Light.quiet (opMove rfl rfl)) ?_
      refine ASL.q (v := (.int .i64 ((pre ++ [mark1 c x]).length : Int))) rfl rfl (Quiet.cast (Light.quiet (opInt rfl rfl rfl rfl)) (congrArg (AV.int .i64) hW)) ?_
      refine ASL.q (v := (.int .i64 ((pre ++ [mark1 c x]).length : Int))) rfl rfl (Light.quiet (opAssign rfl rfl)) ?_
      refine ASL.done ?_
      refine QThen.nrm ?_
      refine ⟨(pre ++ [mark1 c x], r, c + x.qw.length + x.qb.length), ⟨by simp only [List.length_append, List.length_singleton]; omega, by dsimp only; omega, by dsimp only; omega, ?_, by dsimp only; omega⟩, by simp, ⟨rfl, rfl, rfl, trivial⟩, ?_⟩
      · dsimp only; rw [← hm, List.append_assoc, Nat.add_assoc]; rfl
      · dsimp only; rw [mid_raw pre r x (mark1 c x) rfl]; exact hS.pick [1, 0, 2] rfl rfl
end Go.Proofs.Ytcmbbpdepobnlaa
