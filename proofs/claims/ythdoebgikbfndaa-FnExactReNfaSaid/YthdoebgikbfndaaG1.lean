/- Rows of things that hold rows of their own: the rows of them all in one pool. -/
import Derived.Test.YthdoebgikbfndaaF8
namespace Go.Proofs.Ythdoebgikbfndaa.E
open Go Go.RowKit
set_option linter.unusedVariables false
theorem poolB_cons (p : AV × List AV) (ps : List (AV × List AV)) : poolB (p :: ps) = rowB p.1 ++ poolB ps := by unfold poolB; rw [List.flatMap_cons]
theorem poolB_append (ps qs : List (AV × List AV)) : poolB (ps ++ qs) = poolB ps ++ poolB qs := by unfold poolB; rw [List.flatMap_append]
theorem Sep.toPool {H : Heap} {v : AV} {xs : List AV} {ps : List (AV × List AV)} {F : List Res} (hS : Sep H (.row 1 v xs :: .pool ps :: F)) : Sep H (.pool ((v, xs) :: ps) :: F) := by
  obtain ⟨h1, h2, h3, h4, h5⟩ := hS
  refine ⟨⟨h1, fun q hq c hc hc' => h2 (.pool ps) List.mem_cons_self c hc (List.mem_flatMap.mpr ⟨q, hq, hc'⟩), h3⟩, fun q hq c hc => ?_, h5⟩
  have hc : c ∈ poolB ((v, xs) :: ps) := hc
  rw [poolB_cons] at hc
  rcases List.mem_append.mp hc with hc | hc
  · exact h2 q (List.mem_cons_of_mem _ hq) c hc
  · exact h4 q hq c hc
theorem Sep.ofPool {H : Heap} {v : AV} {xs : List AV} {ps : List (AV × List AV)} {F : List Res} (hS : Sep H (.pool ((v, xs) :: ps) :: F)) : Sep H (.row 1 v xs :: .pool ps :: F) := by
  obtain ⟨⟨h1, h2, h3⟩, h4, h5⟩ := hS
  have h4' : ∀ q ∈ F, ∀ c, c ∈ rowB v ++ poolB ps → c ∉ q.blks := fun q hq c hc => h4 q hq c (by show c ∈ poolB _; rw [poolB_cons]; exact hc)
  refine ⟨h1, fun q hq c hc => ?_, h3, fun q hq c hc => h4' q hq c (List.mem_append_right _ hc), h5⟩
  rcases List.mem_cons.mp hq with rfl | hq
  · intro hc'
    obtain ⟨p, hp, hc'⟩ := List.mem_flatMap.mp hc'
    exact h2 p hp c hc hc'
  · exact h4' q hq c (List.mem_append_left _ hc)
theorem Sep.permPool {H : Heap} {ps qs : List (AV × List AV)} {F : List Res} (hS : Sep H (.pool ps :: F)) (hp : ps.Perm qs) : Sep H (.pool qs :: F) := by
  obtain ⟨h1, h2, h3⟩ := hS
  refine ⟨h1.perm hp, fun q hq c hc => h2 q hq c ?_, h3⟩
  obtain ⟨p, hp', hc⟩ := List.mem_flatMap.mp hc
  exact List.mem_flatMap.mpr ⟨p, hp.mem_iff.mpr hp', hc⟩
theorem PoolH.left {H : Heap} : ∀ {ps qs : List (AV × List AV)}, PoolH H (ps ++ qs) → PoolH H ps
  | [], _, _ => trivial
  | p :: l, qs, ⟨h1, h2, h3⟩ => ⟨h1, fun q hq => h2 q (List.mem_append_left _ hq), h3.left⟩
theorem Sep.leftPool {H : Heap} {ps qs : List (AV × List AV)} {F : List Res} (hS : Sep H (.pool (ps ++ qs) :: F)) : Sep H (.pool ps :: F) := by
  obtain ⟨h1, h2, h3⟩ := hS
  exact ⟨h1.left, fun q hq c hc => h2 q hq c (by show c ∈ poolB _; rw [poolB_append]; exact List.mem_append_left _ hc), h3⟩
theorem Sep.newPool {H : Heap} {F : List Res} (hS : Sep H F) : Sep H (.pool [] :: F) := ⟨trivial, fun q hq c hc => by simp [Res.blks, poolB] at hc, hS⟩
theorem Sep.alivePool {H : Heap} {L : List Res} (hS : Sep H L) {k : Nat} {ps : List (AV × List AV)} {v : AV} {xs : List AV} (hk : L[k]? = some (.pool ps)) (hm : (v, xs) ∈ ps) : ∀ b ∈ rowB v, H b ≠ none := fun b hb => (hS.get hk).alive (r := .pool ps) (List.mem_flatMap.mpr ⟨_, hm, hb⟩)
theorem Sep.poolOwn {H : Heap} {L : List Res} (hS : Sep H L) {k : Nat} {ps : List (AV × List AV)} {v : AV} {xs : List AV} (hk : L[k]? = some (.pool ps)) (hm : (v, xs) ∈ ps) : Own 1 H v xs := PoolH.all (hS.get hk : PoolH H ps) _ hm
theorem Sep.poolIn {H : Heap} {v : AV} {xs : List AV} {ps : List (AV × List AV)} {F : List Res} (hS : Sep H (.pool ps :: F)) {k : Nat} (hk : F[k]? = some (.row 1 v xs)) : Sep H (.pool ((v, xs) :: ps) :: F.eraseIdx k) := by
  obtain ⟨h1, h2, h3⟩ := hS
  obtain ⟨g1, g2⟩ := h3.erase hk
  have hm := List.mem_of_getElem? hk
  refine Sep.toPool ⟨h3.get hk, fun q hq c hc => ?_, h1, fun q hq c hc => h2 q (List.mem_of_mem_eraseIdx hq) c hc, g1⟩
  rcases List.mem_cons.mp hq with rfl | hq
  · exact fun hc' => h2 _ hm c hc' hc
  · exact g2 q hq c hc
theorem RAS.rowL {L : List Res} {k s : Nat} {v : AV} {es ts : List AV} (hk : L[k]? = some (.row s v es)) (hn : ts.length = es.length) (hs : ∀ y ∈ ts, (cells y).length = s) (h : RASs L (flat es) (flat ts)) : RAS L v (.list s ts) := .rowc hk hn hs h.get.1 h.get.2
/-- A loop that does what a plain loop does, with something known besides. -/
theorem AWP.loopI {P : Program} {n : Nat} {Q : Exit → Env → Heap → Prop} {e : Env} {H : Heap} {c : Code} {σ ρ ω : Type} {body : σ → Option (σ ⊕ ρ)} {s0 : σ} {o : ρ} (hl : E.loop body s0 = some o) (I : σ → ω → Prop) (S : σ → ω → List (Nat × AV)) (L : σ → ω → List Res) (w0 : ω) (hI : I s0 w0) (ht : Told e (S s0 w0)) (hS : Sep H (L s0 w0))
    (round : ∀ s w H, I s w → Sep H (L s w) → ∀ x, body s = some x → (∀ o', x = .inr o' → o' = o) → AWP P n c (QThen (fun e' H' => ∃ s' w', x = .inl s' ∧ I s' w' ∧ Told e' (S s' w') ∧ Sep H' (L s' w')) Q) (envOf (S s w)) H) : AWP P n (.loop c) Q e H := by
  obtain ⟨k, hk⟩ := loop_iff.mp hl
  refine AWP.loop (fun m e H => ∃ s w, iterN body m s = some o ∧ I s w ∧ Told e (S s w) ∧ Sep H (L s w)) (m := k) ⟨s0, w0, hk, hI, ht, hS⟩ ?_
  rintro m e H ⟨s, w, hm, hI, hT, hS⟩
  cases m with
  | zero => cases hm
  | succ m =>
    simp only [iterN] at hm
    cases hb : body s with
    | none => rw [hb] at hm; cases hm
    | some x =>
      rw [hb] at hm
      refine AWP.only _ hT ((round s w H hI hS x hb (fun o' ho => by subst ho; simpa using hm)).mono ?_)
      intro ex e' H' hq
      cases ex with
      | normal =>
        obtain ⟨s', w', rfl, h1, h2, h3⟩ := hq
        exact ⟨m, by omega, s', w', hm, h1, h2, h3⟩
      | exit id => exact hq
      | goto l => exact hq
      | ret => exact hq
      | panic c => exact hq
      | outgrown => exact hq
theorem ix_map {α β : Type} [Inhabited α] [Inhabited β] {g : α → β} {es : List α} {i : Int} {a : β} (h : ix (es.map g) i = some a) : ∃ x, ix es i = some x ∧ g x = a ∧ x ∈ es := by
  obtain ⟨h0, h1, h2⟩ := ixE h
  rw [List.length_map] at h1
  have hi : i.toNat < es.length := by omega
  refine ⟨es[i.toNat], ?_, ?_, List.getElem_mem hi⟩
  · unfold ix; rw [if_pos ⟨h0, h1⟩, List.getD_eq_getElem?_getD, List.getElem?_eq_getElem hi]; rfl
  · rw [← h2, List.getD_eq_getElem?_getD, List.getElem?_map, List.getElem?_eq_getElem hi]; rfl
theorem app_map {α β : Type} {g : α → β} {y : Nat} {es xs : List α} {zs : List β} (h : app y (es.map g) (xs.map g) = some zs) : app y es xs = some (es ++ xs) ∧ zs = (es ++ xs).map g := by
  obtain ⟨h1, h2, h3⟩ := appE h
  rw [List.length_map, List.length_map] at h1 h2
  refine ⟨?_, by rw [← h3, List.map_append]⟩
  unfold app; rw [if_pos ⟨h1, h2⟩]
/-- A contract with rows of its own, told with all of them frozen. -/
theorem HS.pc {P : Program} {f : FuncId} {as : List AV} {R : AV → List Res → Prop} {u : AV} (h : HS P f as [] R) (hR : ∀ v L', R v L' → RAS L' v u) : PC P f as fun v => v = u := by
  refine PC.of fun B ι w vs hr hv => ?_
  refine (h (fun _ => none) [] ⟨fun q hq => by simp at hq, by simp, trivial⟩ B ι w vs hr hv).mono ?_
  rintro x w' ⟨v, r, κ, G, h1, ⟨L', g1, g2⟩, h3, h4, h5⟩
  have hra := (hR v L' g1).to g2.append.all
  refine ⟨u, r, κ.all G w', fun _ => none, h1, rfl, hra.V h5 (h3.mono (Imm.all_le h5)), Imm.le_trans h4 (Imm.all_le h5), ⟨h5.below, h5.size, Imm.all_imm h5, fun b o hb => ?_, fun b x h => by simp at h, fun b x h => by simp at h, fun b x h => by simp at h, fun b x h => by simp at h⟩⟩
  unfold Imm.all
  cases hG : G b with
  | none => exact h5.iold b o hb
  | some y => have := (h5.lo b y hG).1; omega
section
variable {P : Program} {o : Oper} {e : Env} {H : Heap}
theorem kLenP {L : List Res} (hS : Sep H L) {j : Nat} {as : Array Operand} {ts : Array TypeId} {x : Operand} {t : TypeId} {α : Type} {f : α → AV} {zs : List α} {v : AV} {ps : List (AV × List AV)} (hk : L[j]? = some (.pool ps)) (hm : (v, zs.map f) ∈ ps) (ho : o.op = .call ⟨.builtin .len, as, ts⟩) (ha : as = #[x]) (ht : ts = #[t]) (hu : lenT P t = some false)
    (hx : ev e x = v) : Light P o e H (.int .i64 zs.length) [] := opLenOwn ho ha ht hu hx (hS.poolOwn hk hm)
theorem kIxP {L : List Res} (hS : Sep H L) {j t el : Nat} {x y : Operand} {α : Type} [Inhabited α] {f : α → AV} {zs : List α} {k : IntKind} {i : Int} {a : α} {v : AV} {ps : List (AV × List AV)} (hk : L[j]? = some (.pool ps)) (hm : (v, zs.map f) ∈ ps) (h : ix zs i = some a) (ho : o.op = .indexAddr t x y) (hx : ev e x = v) (hy : ev e y = .int k i)
    (ht : elemA P t = some el) (hs : sizeA P el = some 1) : Light P o e H (ptrTo v i.toNat 1) [] := by
  obtain ⟨h0, h1, h2⟩ := ixE h
  exact opIndexOwnI ho ht hs hx (hS.poolOwn hk hm) hy h0 h1
theorem kLdPo {L : List Res} (hS : Sep H L) {j t : Nat} {x : Operand} {α : Type} [Inhabited α] {f : α → AV} {zs : List α} {i : Int} {a : α} {v : AV} {ps : List (AV × List AV)} (hk : L[j]? = some (.pool ps)) (hm : (v, zs.map f) ∈ ps) (h : ix zs i = some a) (ho : o.op = .load t x) (ht : aggA P t = some false) (hx : ev e x = ptrTo v i.toNat 1) (hu : ∀ a, cells (f a) = [f a]) :
    Light P o e H (f a) (rowB v) := by
  obtain ⟨h0, h1, h2⟩ := ixE h
  rw [← h2]
  exact opLoadRow ho ht hx (hS.poolOwn hk hm) (by omega) hu
end
/-- An owned row behind an owned row of the pool. -/
theorem hAppP {P : Program} {o : Oper} {e : Env} {H : Heap} {K : AV → Heap → Prop} {L : List Res} (hS : Sep H L) {α : Type} {f : α → AV} {ws us zs : List α} {i j : Nat} {x y : Operand} {t t' el yb : Nat} {z : Value} {v v2 : AV} {ps : List (AV × List AV)} (hk : L[j]? = some (.row 1 v (zs.map f))) (hk2 : L[i]? = some (.pool ps)) (hm : (v2, ws.map f) ∈ ps) (ha : app yb zs ws = some us) (ho : o.op = .call ⟨.builtin .append, #[x, y], #[t, t']⟩) (ht : elemA P t = some el) (ht' : t' = t) (hs : sizeA P el = some 1)
    (hb : bytesA P el = some yb) (hz : zeroA P el = some z) (hzs : z.cells.size = 1) (hx : ev e x = v) (hy : ev e y = v2) (h1 : ∀ a, (cells (f a)).all AV.one = true)
    (h : ∀ v' G, Sep G (L.set j (.row 1 v' (us.map f))) → K v' G) : Heavy P o e H K := by
  obtain ⟨g1, g2, rfl⟩ := appE ha
  refine opAppendG ho ht ht' hs hb hz hzs hx (hS.get hk : Own _ _ _ _) (ys := ws.map f) (fun hr g => by rw [hy] at g; exact Own.src hr (hS.poolOwn hk2 hm) g) ?_ (by simpa using g1) (by simpa using g2) fun v' G hO hB hn => h v' G (hS.upd hk (by rw [List.map_append]; exact hO) (fun c x hc hx => hB c x hc hx) hn)
  rw [List.all_eq_true]
  intro x hx
  simp only [flat, List.mem_flatMap, List.mem_map] at hx
  obtain ⟨_, ⟨a, _, rfl⟩, hx⟩ := hx
  exact List.all_eq_true.mp (h1 a) x hx
end Go.Proofs.Ythdoebgikbfndaa.E
