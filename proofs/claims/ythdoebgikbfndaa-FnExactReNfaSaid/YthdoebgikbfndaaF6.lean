/- Rows of rows that grow, are measured, and get back what was lent. -/
import Derived.Test.YthdoebgikbfndaaF5
namespace Go.Proofs.Ythdoebgikbfndaa.E
open Go Go.RowKit
set_option linter.unusedVariables false
section
variable {P : Program} {o : Oper} {e : Env} {H : Heap} {K : AV → Heap → Prop}
theorem hNilRs {L : List Res} {s : Nat} {α : Type} {f : α → AV} (hS : Sep H L) : Sep H (.rows s .nil [] (([] : List (List α)).map (List.map f)) none :: L) :=
  hS.add (r := .rows s .nil [] (([] : List (List α)).map (List.map f)) none) ⟨Own.nil 1 H, rfl, fun i hi => by simp at hi, fun i hi => by simp at hi, fun i j _ hi => by simp at hi⟩ (fun _ _ h => h) (fun c hc => by
    rcases rowsB_mem.mp hc with hc | ⟨i, h1, _⟩
    · simp [rowB] at hc
    · simp at h1)
theorem kLenRows {L : List Res} (hS : Sep H L) {j : Nat} {as : Array Operand} {ts : Array TypeId} {x : Operand} {t : TypeId} {α : Type} {f : α → AV} {zs : List (List α)} {s : Nat} {v : AV} {ws : List AV} {hole : Option Nat} (hk : L[j]? = some (.rows s v ws (zs.map (List.map f)) hole)) (ho : o.op = .call ⟨.builtin .len, as, ts⟩) (ha : as = #[x]) (ht : ts = #[t]) (hu : lenT P t = some false)
    (hx : ev e x = v) : Light P o e H (.int .i64 zs.length) [] := by
  have hO : OwnRows s H v ws (zs.map (List.map f)) hole := hS.get hk
  have hl : ws.length = zs.length := by rw [hO.len]; simp
  have := opLenOwn (f := id) (zs := ws) ho ha ht hu hx (by rw [List.map_id]; exact hO.outer)
  rw [hl] at this; exact this
theorem Sep.unlend {s m : Nat} {α : Type} {f : α → AV} {zs : List (List α)} {us : List α} {i : Int} {v : AV} {ws : List AV} {F : List Res} (hS : Sep H (.row s (ws.getD m .undef) (us.map f) :: .rows s v ws (zs.map (List.map f)) (some m) :: F)) (h : ck i zs.length = some m) :
    Sep H (.rows s v ws ((zs.set m us).map (List.map f)) none :: F) := by
  obtain ⟨_, _, _, h3⟩ := ckE h
  have hw : Own s H (ws.getD m .undef) (us.map f) := hS.1
  have hO : OwnRows s H v ws (zs.map (List.map f)) (some m) := hS.2.2.1
  have hl : m < ws.length := by rw [hO.len]; simpa using h3
  have hd : ∀ c ∈ rowB (ws.getD m .undef), c ∉ rowsB v ws (some m) := fun c hc => hS.2.1 _ List.mem_cons_self c hc
  have hset : ws.set m (ws.getD m .undef) = ws := by
    rw [List.getD_eq_getElem?_getD, List.getElem?_eq_getElem hl]; simp
  have hO' : OwnRows s H v (ws.set m (ws.getD m .undef)) ((zs.map (List.map f)).set m (us.map f)) none :=
    OwnRows.back hO.len (fun i h1 h2 => hO.inner i h1 h2) hO.apart hO.far hl hw (by rw [hset]; exact hO.outer) hd
  rw [hset, ← List.map_set] at hO'
  refine ⟨hO', fun q hq c hc hc' => ?_, hS.2.2.2.2⟩
  rcases rowsB_mem.mp hc with g | ⟨i, g1, g2, g3⟩
  · exact hS.2.2.2.1 q hq c (rowsB_mem.mpr (.inl g)) hc'
  · by_cases e : m = i
    · subst e; exact hS.2.1 q (List.mem_cons_of_mem _ hq) c g3 hc'
    · exact hS.2.2.2.1 q hq c (rowsB_mem.mpr (.inr ⟨i, g1, by simpa using e, g3⟩)) hc'
theorem hAppRows {s : Nat} {x y : Operand} {t t' el yb : Nat} {z : Value} {α : Type} {f : α → AV} {xs zs : List (List α)} {us : List α} {v u : AV} {ws : List AV} {F : List Res} (hS : Sep H (.row s u (us.map f) :: .rows s v ws (xs.map (List.map f)) none :: F)) (ha : app yb xs [us] = some zs) (ho : o.op = .call ⟨.builtin .append, #[x, y], #[t, t']⟩) (ht : elemA P t = some el) (ht' : t' = t) (hs : sizeA P el = some 1)
    (hb : bytesA P el = some yb) (hz : zeroA P el = some z) (hzs : z.cells.size = 1) (hx : ev e x = v) (hy : ev e y = .list 1 [u])
    (k : ∀ v' G, Sep G (.rows s v' (ws ++ [u]) (zs.map (List.map f)) none :: F) → K v' G) : Heavy P o e H K := by
  obtain ⟨g1, g2, rfl⟩ := appE ha
  have hw : Own s H u (us.map f) := hS.1
  have hO : OwnRows s H v ws (xs.map (List.map f)) none := hS.2.2.1
  have hlen : ws.length = xs.length := by rw [hO.len]; simp
  have hd : ∀ c ∈ rowB u, c ∉ rowsB v ws none := fun c hc => hS.2.1 _ List.mem_cons_self c hc
  have hfl : flat [u] = [u] := by unfold flat; rw [List.flatMap_cons, hw.cells]; rfl
  refine opAppend ho ht ht' hs hb hz hzs hx hO.outer hy (by rw [hfl]; simp [hw.one]) (by simpa [hlen] using g1) (by simpa [hlen] using g2) fun v' G hG hB hn => k v' G ?_
  have hKeep : ∀ c, c ∉ rowB v → ∀ x, H c = some x → G c = some x := fun c hc x hx => hB c x hc hx
  have live : ∀ c, (∃ x, H c = some x) → c ∉ rowB v → c ∉ rowB v' := fun c ⟨x, hx⟩ hc hc' => by
    rcases hn c hc' with g | g
    · exact hc g
    · rw [hx] at g; cases g
  have hu : ∀ c ∈ rowB u, c ∉ rowB v := fun c hc g => hd c hc (rowsB_mem.mpr (.inl g))
  have gl : ∀ i, i < ws.length → (ws ++ [u]).getD i .undef = ws.getD i .undef := fun i hi => by rw [List.getD_eq_getElem?_getD, List.getD_eq_getElem?_getD, List.getElem?_append_left hi]
  have gr : (ws ++ [u]).getD ws.length .undef = u := by rw [List.getD_eq_getElem?_getD, List.getElem?_append_right (Nat.le_refl _)]; simp
  have xl : ∀ i, i < ws.length → ((xs ++ [us]).map (List.map f)).getD i [] = (xs.map (List.map f)).getD i [] := fun i hi => by
    rw [List.map_append, List.getD_eq_getElem?_getD, List.getD_eq_getElem?_getD, List.getElem?_append_left (by simp; omega)]
  have xr : ((xs ++ [us]).map (List.map f)).getD ws.length [] = us.map f := by
    rw [List.map_append, List.getD_eq_getElem?_getD, List.getElem?_append_right (by simp; omega)]; simp [hlen]
  have hw' : Own s G u (us.map f) := hw.keep' fun c hc x hx => hKeep c (hu c hc) x hx
  have hO' : OwnRows s G v' (ws ++ [u]) ((xs ++ [us]).map (List.map f)) none := by
    refine ⟨hG, by simp [hlen], fun i hi _ => ?_, fun i hi _ c hc => ?_, fun i j hij hi hj _ _ c hc hc' => ?_⟩
    · by_cases q : i < ws.length
      · rw [gl i q, xl i q]
        exact (hO.inner i q (by simp)).keep' fun c hc x hx => hKeep c (hO.apart i q (by simp) c hc) x hx
      · have e : i = ws.length := by simp at hi; omega
        subst e; rw [gr, xr]; exact hw'
    · by_cases q : i < ws.length
      · rw [gl i q] at hc
        exact live c (Own.has (hO.inner i q (by simp)) c hc) (hO.apart i q (by simp) c hc)
      · have e : i = ws.length := by simp at hi; omega
        subst e; rw [gr] at hc
        exact live c (Own.has hw c hc) (hu c hc)
    · by_cases q : i < ws.length
      · rw [gl i q] at hc
        by_cases r : j < ws.length
        · rw [gl j r] at hc'
          exact hO.far i j hij q r (by simp) (by simp) c hc hc'
        · have e : j = ws.length := by simp at hj; omega
          subst e; rw [gr] at hc'
          exact hd c hc' (rowsB_mem.mpr (.inr ⟨i, q, by simp, hc⟩))
      · have e : i = ws.length := by simp at hi; omega
        subst e; rw [gr] at hc
        have r : j < ws.length := by simp at hj; omega
        rw [gl j r] at hc'
        exact hd c hc (rowsB_mem.mpr (.inr ⟨j, r, by simp, hc'⟩))
  refine ⟨hO', fun q hq c hc hc' => ?_, hS.2.2.2.2.keep fun r hr c hc x hx => hKeep c (fun g => hS.2.2.2.1 r hr c (rowsB_mem.mpr (.inl g)) hc) x hx⟩
  have hq' := hS.2.2.2.2.all q hq
  rcases rowsB_mem.mp hc with g | ⟨i, g1, g2, g3⟩
  · rcases hn c g with g | g
    · exact hS.2.2.2.1 q hq c (rowsB_mem.mpr (.inl g)) hc'
    · exact hq'.alive hc' g
  · by_cases r : i < ws.length
    · rw [gl i r] at g3
      exact hS.2.2.2.1 q hq c (rowsB_mem.mpr (.inr ⟨i, r, by simp, g3⟩)) hc'
    · have e : i = ws.length := by simp at g1; omega
      subst e; rw [gr] at g3
      exact hS.2.1 q (List.mem_cons_of_mem _ hq) c g3 hc'
end
theorem RAS.rowsF {L : List Res} {k s : Nat} {v : AV} {ws : List AV} {α : Type} {f : α → AV} {xs : List (List α)} (h : L[k]? = some (.rows s v ws (xs.map (List.map f)) none)) : RAS L v (.list 1 (xs.map fun q => .list s (q.map f))) := by
  have := RAS.rows h
  rw [List.map_map] at this
  exact this
theorem qLitO {P : Program} {o : Oper} {e : Env} {H : Heap} {L : List Res} (hS : Sep H L) {i s' : Nat} {u : AV} {ys : List AV} (hk : L[i]? = some (.row s' u ys)) {t el : Nat} {len : Nat} {parts : Array (Nat × Operand)} {z : Value} (ho : o.op = .buildSlice t len parts) (ht : elemA P t = some el) (hs : sizeA P el = some 1) (hz : zeroA P el = some z) (hzs : z.cells.size = 1)
    (hp : parts.toList.map (·.1) = List.range len) (hx : parts.toList.map (fun p => ev e p.2) = [u]) (hbig : len * 1 ≤ 16777216) : Quiet P o e H (.list 1 [u]) [] := by
  have hw : Own s' H u ys := hS.get hk
  have h1 := hw.one
  have hc := hw.cells
  exact qLit ho ht hs hz hzs hp hx (by simp only [List.all_cons, List.all_nil, Bool.and_true]; cases u <;> first | rfl | simp [AV.one] at h1) (fun x hx => by rw [List.mem_singleton.mp hx, hc]; rfl) hbig
theorem Sep.rows0 {H : Heap} {L : List Res} {s : Nat} {v : AV} {xs : List AV} {α : Type} {f : α → AV} (hS : Sep H (.row 1 v xs :: L)) (hx : xs = []) : Sep H (.rows s v [] (([] : List (List α)).map (List.map f)) none :: L) := by
  subst hx
  obtain ⟨h1, h2, h3⟩ := hS
  refine ⟨⟨h1, rfl, fun i hi => by simp at hi, fun i hi => by simp at hi, fun i j _ hi => by simp at hi⟩, fun q hq c hc => ?_, h3⟩
  rcases rowsB_mem.mp hc with g | ⟨i, g, _⟩
  · exact h2 q hq c g
  · simp at g
section
variable {P : Program} {n : Nat} {o : Oper} {e : Env} {H : Heap} {K : AV → Heap → Prop}
/-- A told list held against nil: with something in it it is not nil; else one cannot tell. -/
theorem opNilT {xT yT el s : Nat} {x y : Operand} {xs : List AV} (ho : o.op = .binOp .eql xT x y yT) (ht : P.underlying xT = some (.slice el)) (hx : ev e x = .list s xs) (hy : ev e y = .nil) (h : ∀ b, (b = true → xs = []) → K (.bool b) H) : Heavy P o e H K := by
  intro e' he B ι a w m hr hE next Q hk
  have h1 : V ι (.list s xs) (a.eval x) := by rw [← hx, ← he x (by simp [ho, Op.operands])]; exact hE.ev x
  have h2 : V ι .nil (a.eval y) := by rw [← hy, ← he y (by simp [ho, Op.operands])]; exact hE.ev y
  unfold Oper.wp
  rcases h1.list_inv with ⟨hn, a', c, hv⟩ | ⟨b, q, cap, vs, hv, _⟩
  · have hr1 : (execOp a.eval o).run P w = .ok (.value (.bool a'.isNone)) w := by
      simp only [execOp, ho, hv, h2.nil_inv, eqGuard]; simp [Lib.run_eql_slice_nil w xT el _ _ _ _ _ ht]
    rw [hr1]
    exact hk _ _ w ι H (h _ fun _ => hn) (.bool _) (Imm.le_refl _) hr
  · have hr1 : (execOp a.eval o).run P w = .ok (.value (.bool false)) w := by
      simp only [execOp, ho, hv, h2.nil_inv, eqGuard]; simp [Lib.run_eql_slice_nil w xT el _ _ _ _ _ ht]
    rw [hr1]
    exact hk _ _ w ι H (h false (by simp)) (.bool _) (Imm.le_refl _) hr
theorem AWP.ifN {c : Operand} {x y : Code} {Q : Exit → Env → Heap → Prop} {b : Bool} {p : Prop} [Decidable p] {α : Type} {A B : α} {r : α} (hF : (if p then A else B) = r) (he : ev e c = .bool b) (hb : b = true → p) (hAB : p → A = r → B = r) (t : A = r → AWP P n x Q e H) (f : B = r → AWP P n y Q e H) : AWP P n (.cond c x y) Q e H := by
  cases b with
  | true => exact AWP.condT he (t (by rw [if_pos (hb rfl)] at hF; exact hF))
  | false =>
    refine AWP.condF he (f ?_)
    by_cases h : p
    · rw [if_pos h] at hF; exact hAB h hF
    · rw [if_neg h] at hF; exact hF
end
theorem Sep.rows1 {H : Heap} {F : List Res} {s : Nat} {v u : AV} {xs : List AV} {α : Type} {f : α → AV} {us : List α} (hS : Sep H (.row 1 v xs :: .row s u (us.map f) :: F)) (hx : xs = [u]) : Sep H (.rows s v [u] (([us] : List (List α)).map (List.map f)) none :: F) := by
  subst hx
  obtain ⟨h1, h2, h3, h4, h5⟩ := hS
  refine ⟨⟨h1, rfl, fun i hi _ => ?_, fun i hi _ c hc hc' => ?_, fun i j hij hi hj _ _ => by simp at hi hj; omega⟩, fun q hq c hc hc' => ?_, h5⟩
  · obtain rfl : i = 0 := by simp at hi; omega
    exact h3
  · obtain rfl : i = 0 := by simp at hi; omega
    exact h2 _ List.mem_cons_self c hc' hc
  · rcases rowsB_mem.mp hc with g | ⟨i, g1, _, g3⟩
    · exact h2 q (List.mem_cons_of_mem _ hq) c g hc'
    · obtain rfl : i = 0 := by simp at g1; omega
      exact h4 q hq c g3 hc'
-- a literal that holds nil
section
variable {P : Program} {o : Oper} {e : Env} {H : Heap}
theorem Quiet.weak {v u : AV} {bs : List Nat} (h : Quiet P o e H v bs) (hv : ∀ ι r, V ι v r → V ι u r) : Quiet P o e H u bs := by
  intro e' H' ha hD K k
  intro e2 he B ι a w n hr hE next Q hk
  exact h e' H' ha hD (fun x G => x = v ∧ G = H') ⟨rfl, rfl⟩ e2 he B ι a w n hr hE next Q fun x r w' κ G ⟨h1, h2⟩ hV hle hrel => hk u r w' κ G (by rw [h2]; exact k) (hv κ r (by rw [← h1]; exact hV)) hle hrel
theorem V.nil1 {ι : Imm} {s : Nat} {r : Value} (h : V ι (.list 1 [.nil]) r) : V ι (.list 1 [.list s []]) r := by
  cases h with
  | list vs hs hc h1 h2 =>
    refine .list (xs := [.list s []]) vs (fun x hx => by rw [List.mem_singleton.mp hx]; rfl) hc h1 fun p hp => ?_
    have hp1 : p < 1 := hp
    have hp0 : p = 0 := by omega
    subst hp0
    have h3 : vs 0 = .slice none 0 0 := V.nil_inv (h2 0 Nat.zero_lt_one)
    rw [h3]; exact .listNil _ _ _
theorem qLitNil {t el s : Nat} {x : Operand} {z : Value} (ho : o.op = .buildSlice t 1 #[(0, x)]) (hx : ev e x = .nil) (ht : elemA P t = some el) (hs : sizeA P el = some 1) (hz : zeroA P el = some z) (hzs : z.cells.size = 1) : Quiet P o e H (.list 1 [.list s []]) [] :=
  Quiet.weak (qLit (xs := [.nil]) ho ht hs hz hzs rfl (by show [ev e x] = _; rw [hx]) rfl (by simp [cells]) (by decide)) fun ι r h => h.nil1
end
end Go.Proofs.Ythdoebgikbfndaa.E
