/- Rows of rows that are each of their own; variables that nobody writes any more; arrays. -/
import Derived.Test.YthdoebgikbfndaaF3
namespace Go.Proofs.Ythdoebgikbfndaa.E
open Go Go.RowKit
set_option linter.unusedVariables false

theorem Sep.two {H : Heap} {L : List Res} {k : Nat} {r r1 r2 : Res} (hS : Sep H L) (hk : L[k]? = some r) (h1 : r1.holds H) (h2 : r2.holds H) (b1 : ∀ c ∈ r1.blks, c ∈ r.blks) (b2 : ∀ c ∈ r2.blks, c ∈ r.blks) (hd : ∀ c ∈ r1.blks, c ∉ r2.blks) : Sep H (r1 :: L.set k r2) := by
  refine ⟨h1, fun q hq c hc hc' => ?_, hS.upd hk h2 (fun c x _ hx => hx) (fun c hc => .inl (b2 c hc))⟩
  obtain ⟨j, hj, rfl⟩ := List.getElem_of_mem hq
  by_cases e : k = j
  · subst e
    rw [List.getElem_set_self] at hc'
    exact hd c hc hc'
  · rw [List.getElem_set_ne e] at hc'
    have hj' : j < L.length := by simpa using hj
    exact hS.to.2 k j r L[j] e hk (List.getElem?_eq_getElem hj') c (b1 c hc) hc'

theorem getD_mapL {α : Type} {f : α → AV} (xs : List (List α)) (m : Nat) : (xs.map (List.map f)).getD m [] = (xs.getD m []).map f := by
  simp only [List.getD_eq_getElem?_getD, List.getElem?_map]
  cases xs[m]? <;> rfl

/-- One of the rows is lent out. -/
theorem Sep.lend {H : Heap} {L : List Res} {k s m : Nat} {v : AV} {ws : List AV} {α : Type} {f : α → AV} {xs : List (List α)} {i : Int} (hS : Sep H L) (hk : L[k]? = some (.rows s v ws (xs.map (List.map f)) none)) (hm : ck i xs.length = some m) :
    Sep H (.row s (ws.getD m .undef) ((xs.getD m []).map f) :: L.set k (.rows s v ws (xs.map (List.map f)) (some m))) := by
  have hO : OwnRows s H v ws (xs.map (List.map f)) none := hS.get hk
  obtain ⟨_, _, _, hlt⟩ := ckE hm
  have hl : m < ws.length := by rw [hO.len]; simpa using hlt
  refine hS.two hk ?_ ?_ ?_ ?_ ?_
  · have := hO.inner m hl (by simp)
    rw [getD_mapL] at this
    exact this
  · exact ⟨hO.outer, hO.len, fun i h1 _ => hO.inner i h1 (by simp), fun i h1 _ => hO.apart i h1 (by simp), fun i j h h1 h2 _ _ => hO.far i j h h1 h2 (by simp) (by simp)⟩
  · intro c hc
    exact rowsB_mem.mpr (.inr ⟨m, hl, by simp, hc⟩)
  · intro c hc
    rcases rowsB_mem.mp hc with hc | ⟨i, g1, g2, g3⟩
    · exact rowsB_mem.mpr (.inl hc)
    · exact rowsB_mem.mpr (.inr ⟨i, g1, by simp, g3⟩)
  · intro c hc hc'
    rcases rowsB_mem.mp hc' with hc' | ⟨i, g1, g2, g3⟩
    · exact hO.apart m hl (by simp) c hc hc'
    · exact hO.far m i (fun e => g2 (by rw [e])) hl g1 (by simp) (by simp) c hc g3

/-- And given back. -/
theorem OwnRows.back {s m : Nat} {H : Heap} {v w : AV} {ws : List AV} {xss : List (List AV)} {xs : List AV} (hlen : ws.length = xss.length) (hin : ∀ i, i < ws.length → some m ≠ some i → Own s H (ws.getD i .undef) (xss.getD i []))
    (hap : ∀ i, i < ws.length → some m ≠ some i → ∀ c ∈ rowB (ws.getD i .undef), c ∉ rowB v) (hfar : ∀ i j, i ≠ j → i < ws.length → j < ws.length → some m ≠ some i → some m ≠ some j → ∀ c ∈ rowB (ws.getD i .undef), c ∉ rowB (ws.getD j .undef))
    (hm : m < ws.length) (hw : Own s H w xs) (ho : Own 1 H v (ws.set m w)) (hd : ∀ c ∈ rowB w, c ∉ rowsB v ws (some m)) : OwnRows s H v (ws.set m w) (xss.set m xs) none := by
  have hn : ∀ c ∈ rowB w, c ∉ rowB v ∧ ∀ i, i < ws.length → m ≠ i → c ∉ rowB (ws.getD i .undef) := fun c hc =>
    ⟨fun g => hd c hc (rowsB_mem.mpr (.inl g)), fun i hi hne g => hd c hc (rowsB_mem.mpr (.inr ⟨i, hi, by simpa using hne, g⟩))⟩
  have e1 : (ws.set m w).getD m .undef = w := by simp [List.getD_eq_getElem?_getD, hm]
  have e2 : ∀ i, m ≠ i → (ws.set m w).getD i .undef = ws.getD i .undef := fun i hi => by simp [List.getD_eq_getElem?_getD, hi]
  have e3 : (xss.set m xs).getD m [] = xs := by simp [List.getD_eq_getElem?_getD, ← hlen, hm]
  have e4 : ∀ i, m ≠ i → (xss.set m xs).getD i [] = xss.getD i [] := fun i hi => by simp [List.getD_eq_getElem?_getD, hi]
  refine ⟨ho, by simpa using hlen, fun i hi _ => ?_, fun i hi _ => ?_, fun i j hij hi hj _ _ => ?_⟩
  · by_cases e : m = i
    · subst e; rw [e1, e3]; exact hw
    · rw [e2 i e, e4 i e]; exact hin i (by simpa using hi) (by simpa using e)
  · by_cases e : m = i
    · subst e; rw [e1]; exact fun c hc => (hn c hc).1
    · rw [e2 i e]; exact hap i (by simpa using hi) (by simpa using e)
  · have hi' : i < ws.length := by simpa using hi
    have hj' : j < ws.length := by simpa using hj
    by_cases e : m = i
    · subst e; rw [e1, e2 j hij]; exact fun c hc => (hn c hc).2 j hj' hij
    · by_cases e' : m = j
      · subst e'; rw [e1, e2 i e]; exact fun c hc hc' => (hn c hc').2 i hi' e hc
      · rw [e2 i e, e2 j e']; exact hfar i j hij hi' hj' (by simpa using e) (by simpa using e')
theorem rowsB_set {v w : AV} {ws : List AV} {m : Nat} {c : Nat} (hc : c ∈ rowsB v (ws.set m w) none) : c ∈ rowB w ∨ c ∈ rowsB v ws (some m) := by
  rcases rowsB_mem.mp hc with h | ⟨i, h1, _, h3⟩
  · exact .inr (rowsB_mem.mpr (.inl h))
  · by_cases e : m = i
    · subst e
      have : m < ws.length := by simpa using h1
      simp [List.getD_eq_getElem?_getD, this] at h3
      exact .inl h3
    · refine .inr (rowsB_mem.mpr (.inr ⟨i, by simpa using h1, by simpa using e, ?_⟩))
      simpa [List.getD_eq_getElem?_getD, e] using h3

theorem Sep.perm2 {H : Heap} {a b : Res} {F : List Res} (h : Sep H (a :: b :: F)) : Sep H (b :: a :: F) :=
  ⟨h.2.2.1, fun q hq c hc hc' => by
    rcases List.mem_cons.mp hq with rfl | hq
    · exact h.2.1 b List.mem_cons_self c hc' hc
    · exact h.2.2.2.1 q hq c hc hc', h.1, fun q hq => h.2.1 q (List.mem_cons_of_mem _ hq), h.2.2.2.2⟩

section
variable {P : Program} {o : Oper} {e : Env} {H : Heap} {K : AV → Heap → Prop}
theorem kIxRows {L : List Res} (hS : Sep H L) {j m t el s : Nat} {x y : Operand} {α : Type} {f : α → AV} {zs : List (List α)} {k : IntKind} {i : Int} {v : AV} {ws : List AV} {hole : Option Nat} (hk : L[j]? = some (.rows s v ws (zs.map (List.map f)) hole)) (h : ck i zs.length = some m) (ho : o.op = .indexAddr t x y) (hx : ev e x = v) (hy : ev e y = .int k i)
    (ht : elemA P t = some el) (hs : sizeA P el = some 1) : Light P o e H (ptrTo v m 1) [] := by
  obtain ⟨h0, h1, rfl, h3⟩ := ckE h
  have hO : OwnRows s H v ws (zs.map (List.map f)) hole := hS.get hk
  have hl : i.toNat < ws.length := by rw [hO.len]; simpa using h3
  have hI : (i.toNat : Int) = i := Int.toNat_of_nonneg h0
  obtain ⟨b, q, c, rfl⟩ := hO.outer.slc (by omega)
  exact opIndexAddr ho hx hy ht hs h0 (by omega) rfl
theorem kLdRows {L : List Res} (hS : Sep H L) {j m s t : Nat} {x : Operand} {α : Type} {f : α → AV} {zs : List (List α)} {i : Int} {v : AV} {ws : List AV} (hk : L[j]? = some (.rows s v ws (zs.map (List.map f)) none)) (h : ck i zs.length = some m) (ho : o.op = .load t x) (ht : aggA P t = some false) (hx : ev e x = ptrTo v m 1) :
    Light P o e H (ws.getD m .undef) (rowB v) := by
  obtain ⟨h0, h1, rfl, h3⟩ := ckE h
  have hO : OwnRows s H v ws (zs.map (List.map f)) none := hS.get hk
  have hl : i.toNat < ws.length := by rw [hO.len]; simpa using h3
  obtain ⟨b, q, c, rfl⟩ := hO.outer.slc (by omega)
  have hc : c ≠ 0 := by
    obtain ⟨_, _, _, _, g3, _, g5⟩ := hO.outer.blk (by omega)
    omega
  have hg : ws[i.toNat]? = some (ws.getD i.toNat .undef) := by simp [List.getD_eq_getElem?_getD, hl]
  have := opLoadOwn (H := H) ho ht hx hO.outer hg (hO.inner _ hl (by simp)).cells
  rw [show rowB (.slc b q ws.length c) = [b] by simp [rowB, hc]]
  exact this
theorem Sep.aliveRs {L : List Res} (h : Sep H L) {k s : Nat} {v : AV} {ws : List AV} {xss : List (List AV)} {hole : Option Nat} (hk : L[k]? = some (.rows s v ws xss hole)) : ∀ b ∈ rowB v, H b ≠ none := fun b hb => by
  have hO : OwnRows s H v ws xss hole := h.get hk
  exact hO.outer.alive' b hb
theorem Sep.oneRs {L : List Res} (h : Sep H L) {k s : Nat} {v : AV} {ws : List AV} {xss : List (List AV)} {hole : Option Nat} (hk : L[k]? = some (.rows s v ws xss hole)) : v.one = true := by
  have hO : OwnRows s H v ws xss hole := h.get hk
  exact hO.outer.one
/-- A row that was lent out is put back. -/
theorem hStRows {s m m' t : Nat} {x y : Operand} {α : Type} {f : α → AV} {zs : List (List α)} {us : List α} {i : Int} {v w : AV} {ws : List AV} {F : List Res} (hS : Sep H (.row s w (us.map f) :: .rows s v ws (zs.map (List.map f)) (some m) :: F)) (h : ck i zs.length = some m) (h' : ck i zs.length = some m') (ho : o.op = .store t x y) (hs : sizeA P t = some 1) (hx : ev e x = ptrTo v m' 1) (hy : ev e y = w)
    (k : ∀ G, Sep G (.rows s v (ws.set m w) ((zs.set m us).map (List.map f)) none :: F) → K .undef G) : Heavy P o e H K := by
  obtain rfl : m = m' := Option.some.inj (h.symm.trans h')
  obtain ⟨_, _, _, h3⟩ := ckE h
  have hw : Own s H w (us.map f) := hS.1
  have hO : OwnRows s H v ws (zs.map (List.map f)) (some m) := hS.2.2.1
  have hl : m < ws.length := by rw [hO.len]; simpa using h3
  have hd : ∀ c ∈ rowB w, c ∉ rowsB v ws (some m) := fun c hc => hS.2.1 _ List.mem_cons_self c hc
  refine opStoreRow ho hs hx hy hO.outer hl (by have := hw.one; cases w <;> first | rfl | simp [AV.one] at this) (by rw [hw.cells]; rfl) (by rw [hw.cells]; simp [hw.one]) fun G hG hB => k G ?_
  have hKeep : ∀ c, c ∉ rowB v → ∀ x, H c = some x → G c = some x := fun c hc x hx => hB c x hc hx
  have hw' : Own s G w (us.map f) := hw.keep' fun c hc x hx => hKeep c (fun g => hd c hc (rowsB_mem.mpr (.inl g))) x hx
  have hO' : OwnRows s G v (ws.set m w) ((zs.map (List.map f)).set m (us.map f)) none :=
    OwnRows.back hO.len (fun i h1 h2 => (hO.inner i h1 h2).keep' fun c hc x hx => hKeep c (hO.apart i h1 h2 c hc) x hx) hO.apart hO.far hl hw' hG hd
  rw [← List.map_set] at hO'
  refine ⟨hO', fun q hq c hc hc' => ?_, hS.2.2.2.2.keep fun r hr c hc x hx => hKeep c (fun g => ?_) x hx⟩
  · rcases rowsB_set hc with g | g
    · exact hS.2.1 q (List.mem_cons_of_mem _ hq) c g hc'
    · exact hS.2.2.2.1 q hq c g hc'
  · exact hS.2.2.2.1 r hr c (rowsB_mem.mpr (.inl g)) hc
/-- A row of empty rows. -/
theorem hMkRows {L : List Res} (hS : Sep H L) {α : Type} {f : α → AV} {s : Nat} {zs : List (List α)} {t el yb : Nat} {l c : Operand} {k k' : IntKind} {m : Int} (hm : mk yb ([] : List α) m = some zs) (hw : 0 < yb) (ho : o.op = .makeSlice t l c) (ht : elemA P t = some el) (hs : sizeA P el = some 1) (hb : bytesA P el = some yb) (hz : zeroA P el = some (.slice none 0 0))
    (hl : ev e l = .int k m) (hc : ev e c = .int k' m) (h : ∀ v ws G, (∀ c x, H c = some x → G c = some x) → Sep G (.rows s v ws (zs.map (List.map f)) none :: L) → K v G) : Heavy P o e H K := by
  obtain ⟨g1, g2, rfl⟩ := mkE hm
  refine opMake (zv := .nil) ho ht hs hb hz rfl rfl (by decide) hl hc g1 g2 ?_ fun v G hO hk hn _ => h v (List.replicate m.toNat .nil) G hk (hS.add ?_ hk fun c hc => ?_)
  · have : (1 : Int) * m ≤ (yb : Int) * m := Int.mul_le_mul_of_nonneg_right (by omega) g1
    omega
  · have e1 : ∀ i, i < m.toNat → (List.replicate m.toNat AV.nil).getD i .undef = .nil := fun i hi => by simp [List.getD_eq_getElem?_getD, hi]
    refine ⟨hO, by simp, fun i hi _ => ?_, fun i hi _ => ?_, fun i j _ hi hj _ _ => ?_⟩
    · rw [e1 i (by simpa using hi), getD_mapL]
      have : (List.replicate m.toNat ([] : List α)).getD i [] = [] := by simp [List.getD_eq_getElem?_getD, List.getElem?_replicate]; split <;> rfl
      rw [this]; exact Own.nil s G
    · rw [e1 i (by simpa using hi)]; simp [rowB]
    · rw [e1 i (by simpa using hi)]; simp [rowB]
  · rcases rowsB_mem.mp hc with hc | ⟨i, h1, _, h3⟩
    · exact hn c hc
    · have : (List.replicate m.toNat AV.nil).getD i .undef = .nil := by simp [List.getD_eq_getElem?_getD]; simp at h1; rw [List.getElem?_replicate]; simp [h1]
      rw [this] at h3; simp [rowB] at h3

theorem ckIx {α : Type} [Inhabited α] {zs : List α} {i : Int} {m : Nat} (h : ck i zs.length = some m) : ix zs i = some (zs.getD m default) ∧ m = i.toNat := by
  obtain ⟨h0, h1, rfl, _⟩ := ckE h
  exact ⟨ix_ok h0 h1, rfl⟩
theorem kLdm {L : List Res} (hS : Sep H L) {j m t : Nat} {x : Operand} {α : Type} [Inhabited α] {f : α → AV} {zs : List α} {i : Int} {v : AV} (hk : L[j]? = some (.row 1 v (zs.map f))) (h : ck i zs.length = some m) (ho : o.op = .load t x) (ht : aggA P t = some false) (hx : ev e x = ptrTo v m 1) (hu : ∀ a, cells (f a) = [f a]) :
    Light P o e H (f (zs.getD m default)) (rowB v) := by
  obtain ⟨h1, rfl⟩ := ckIx h
  exact kLd hS hk h1 ho ht hx hu
theorem kLdAm {L : List Res} (hS : Sep H L) {j m t s : Nat} {x : Operand} {α : Type} [Inhabited α] {f : α → AV} {zs : List α} {i : Int} {v : AV} {ys : List AV} (hk : L[j]? = some (.row s v (zs.map f))) (h : ck i zs.length = some m) (ho : o.op = .load t x) (ht : aggA P t = some true) (hs : sizeA P t = some s) (hx : ev e x = ptrTo v m s) (hu : f (zs.getD m default) = .agg ys) :
    Light P o e H (.agg ys) (rowB v) := by
  obtain ⟨h1, rfl⟩ := ckIx h
  exact kLdA hS hk h1 ho ht hs hx hu
theorem kLdPm {L : List Res} (hS : Sep H L) {j m t s p : Nat} {x : Operand} {α : Type} [Inhabited α] {f : α → AV} {zs : List α} {i : Int} {v w : AV} (hk : L[j]? = some (.row s v (zs.map f))) (h : ck i zs.length = some m) (ho : o.op = .load t x) (ht : aggA P t = some false) (hx : ev e x = ptrOff v m s p) (hw : (cells (f (zs.getD m default)))[p]? = some w) :
    Light P o e H w (rowB v) := by
  obtain ⟨h1, rfl⟩ := ckIx h
  exact kLdP hS hk h1 ho ht hx hw

theorem kNilE {L : List Res} (hS : Sep H L) {j m s : Nat} {x : Operand} {α : Type} {f : α → AV} {zs : List α} {i : Int} {v : AV} (hk : L[j]? = some (.row s v (zs.map f))) (h : ck i zs.length = some m) (ho : o.op = .nilCheck x) (hx : ev e x = ptrTo v m s) : Light P o e H (ptrTo v m s) [] := by
  obtain ⟨h0, h1, rfl, h3⟩ := ckE h
  obtain ⟨b, q, c, rfl⟩ := (hS.get hk : Own _ _ _ _).slc (by simp; omega)
  exact opNil ho hx rfl
theorem kNilEx {L : List Res} (hS : Sep H L) {j s : Nat} {x : Operand} {α : Type} [Inhabited α] {f : α → AV} {zs : List α} {i : Int} {a : α} {v : AV} (hk : L[j]? = some (.row s v (zs.map f))) (h : ix zs i = some a) (ho : o.op = .nilCheck x) (hx : ev e x = ptrTo v i.toNat s) : Light P o e H (ptrTo v i.toNat s) [] := by
  obtain ⟨h0, h1, h2⟩ := ixE h
  obtain ⟨b, q, c, rfl⟩ := (hS.get hk : Own _ _ _ _).slc (by simp; omega)
  exact opNil ho hx rfl
-- what was read ahead of a row that is written
theorem Sep.ap {L : List Res} (h : Sep H L) {j k : Nat} {r q : Res} (hj : L[j]? = some r) (hk : L[k]? = some q) (hn : Nat.beq j k = false) : ∀ c ∈ r.blks, c ∉ q.blks :=
  h.to.2 j k r q (fun e => by subst e; simp at hn) hj hk
theorem Sep.apC {L : List Res} (h : Sep H L) {j k b s : Nat} {cs xs : List AV} {v : AV} (hj : L[j]? = some (.cell b cs)) (hk : L[k]? = some (.row s v xs)) (hn : Nat.beq j k = false) : ∀ c ∈ [b], c ∉ rowB v := h.ap hj hk hn
theorem Sep.apR {L : List Res} (h : Sep H L) {j k s s' : Nat} {xs ys : List AV} {u v : AV} (hj : L[j]? = some (.row s' u ys)) (hk : L[k]? = some (.row s v xs)) (hn : Nat.beq j k = false) : ∀ c ∈ rowB u, c ∉ rowB v := h.ap hj hk hn
theorem Sep.apRs {L : List Res} (h : Sep H L) {j k s s' : Nat} {xs ws : List AV} {yss : List (List AV)} {hole : Option Nat} {u v : AV} (hj : L[j]? = some (.rows s' u ws yss hole)) (hk : L[k]? = some (.row s v xs)) (hn : Nat.beq j k = false) : ∀ c ∈ rowB u, c ∉ rowB v :=
  fun c hc => h.ap hj hk hn c (rowsB_mem.mpr (.inl hc))
theorem Sep.apN (v : AV) : ∀ c ∈ ([] : List Nat), c ∉ rowB v := by simp
def DB (ops : Array Oper) (o : Oper) (v : AV) : List (Nat × List Nat) → Prop
  | [] => True
  | d :: r => (depT ops ops.size o d.1 = true ∨ ∀ b ∈ d.2, b ∉ rowB v) ∧ DB ops o v r
theorem DB.get {ops : Array Oper} {v : AV} : ∀ {D : List (Nat × List Nat)}, DB ops o v D → ∀ d ∈ D, depT ops ops.size o d.1 = true ∨ ∀ b ∈ d.2, b ∉ rowB v
  | d :: r, ⟨h1, h2⟩, q, hq => by
    rcases List.mem_cons.mp hq with rfl | hq
    · exact h1
    · exact DB.get h2 q hq
theorem ARL.yB {ops : Array Oper} {Q : Env → Heap → Prop} {i : Nat} {m : Bool} {r : List (Nat × Bool × Oper)} {D : List (Nat × List Nat)} {d : Nat} {v : AV} (hw : want ops o e = some true) (hd : o.dst = some d) (hb : m = true) (hD : DB ops o v D) (hl : Heavy P o e H fun u G => Beside v H G ∧ ARL P ops Q r D (upd e d u) G) : ARL P ops Q ((i, m, o) :: r) D e H :=
  .inr (.inr ⟨hw, hb, hl.mono fun u G g => ⟨fun d hd' => by
    rcases hD.get d hd' with h | h
    · exact .inl h
    · refine .inr fun b hb hn => ?_
      cases hH : H b with
      | none => exact absurd hH hn
      | some x => exact g.1 b x (h b hb) hH, by rw [hd]; exact g.2⟩⟩)
theorem hAppB {L : List Res} (hS : Sep H L) {α : Type} {f : α → AV} {ws us zs : List α} {j : Nat} {x y : Operand} {t t' el s yb : Nat} {z : Value} {v : AV} (hk : L[j]? = some (.row s v (zs.map f))) (ha : app yb zs ws = some us) (ho : o.op = .call ⟨.builtin .append, #[x, y], #[t, t']⟩) (ht : elemA P t = some el) (ht' : t' = t) (hs : sizeA P el = some s)
    (hb : bytesA P el = some yb) (hz : zeroA P el = some z) (hzs : z.cells.size = s) (hx : ev e x = v) (hy : ev e y = .list s (ws.map f)) (h1 : ∀ a, (cells (f a)).all AV.one = true)
    (h : ∀ v' G, Beside v H G → Sep G (L.set j (.row s v' (us.map f))) → K v' G) : Heavy P o e H K := by
  obtain ⟨g1, g2, rfl⟩ := appE ha
  refine opAppend ho ht ht' hs hb hz hzs hx (hS.get hk : Own _ _ _ _) hy ?_ (by simpa using g1) (by simpa using g2) fun v' G hO hB hn => h v' G hB (hS.upd hk (by rw [List.map_append]; exact hO) (fun c x hc hx => hB c x hc hx) hn)
  rw [List.all_eq_true]
  intro x hx
  simp only [flat, List.mem_flatMap, List.mem_map] at hx
  obtain ⟨_, ⟨a, _, rfl⟩, hx⟩ := hx
  exact List.all_eq_true.mp (h1 a) x hx

-- literals that hold rows of their own
theorem putO {cs ys : List AV} {pl : List (Nat × Nat)} {i o : Nat} {v : AV} {r : List (Nat × AV)} (h : v.one = true) (hp : pl[i]? = some (o, 1)) (hl : Nat.blt o cs.length = true) (k : putAll (cs.set o v) pl r = some ys) : putAll cs pl ((i, v) :: r) = some ys := by
  have hc : cells v = [v] := by cases v <;> first | rfl | simp [AV.one] at h
  have ht : v.told = true := by cases v <;> first | rfl | simp [AV.one] at h
  have hl' : o + 1 ≤ cs.length := Nat.le_of_ble_eq_true hl
  unfold putAll
  rw [hp]
  simp only [hc, ht, setAll]
  have : Nat.ble (o + 1) cs.length = true := Nat.ble_eq_true_of_le hl'
  simp [this, k]
theorem putN {cs ys : List AV} {pl : List (Nat × Nat)} {i o n : Nat} {v : AV} {r : List (Nat × AV)} (hp : pl[i]? = some (o, n)) (hc : (Nat.beq (cells v).length n && Nat.ble (o + n) cs.length && v.told) = true) (k : putAll (setAll cs o (cells v)) pl r = some ys) : putAll cs pl ((i, v) :: r) = some ys := by
  unfold putAll
  rw [hp]
  simp only [hc, cond_true]
  exact k

-- arrays
theorem fill_congr {p q : Nat → Option (Nat × Nat)} : ∀ (us : List (Nat × Value)) (cs : Array Value), (∀ u ∈ us, p u.1 = q u.1) → Instr.fill p cs us = Instr.fill q cs us
  | [], _, _ => rfl
  | (i, v) :: us, cs, h => by
    have h0 := h (i, v) List.mem_cons_self
    simp only at h0
    unfold Instr.fill
    rw [h0]
    split
    · rfl
    · split
      · rfl
      · exact fill_congr us _ fun u hu => h u (List.mem_cons_of_mem _ hu)
def arrA (P : Program) (t : TypeId) : Option (Nat × Nat × Nat) := match P.underlying t with
  | some (.array n el) => (sizeA P el).map fun s => (n, el, s)
  | _ => none
theorem arrA_spec {t n el s : Nat} (h : arrA P t = some (n, el, s)) : P.underlying t = some (.array n el) ∧ sizeA P el = some s := by
  unfold arrA at h
  split at h
  · rename_i m el' hu
    cases hs : sizeA P el' with
    | none => rw [hs] at h; cases h
    | some s' => rw [hs] at h; simp at h; obtain ⟨rfl, rfl, rfl⟩ := h; exact ⟨hu, hs⟩
  · cases h
theorem opBuildArr {t n el s : Nat} {parts : Array (Nat × Operand)} {pl : List (Nat × Nat)} {z : Value} {ys : List AV} (ho : o.op = .build t parts) (ht : arrA P t = some (n, el, s)) (hp : pl = (List.range n).map fun i => (i * s, s)) (hz : zeroA P t = some z) (hn : parts.toList.all (fun p => Nat.blt p.1 n) = true)
    (hv : putAll (cells (avOf z)) pl (parts.toList.map fun p => (p.1, ev e p.2)) = some ys) : Light P o e H (.agg ys) [] :=
  Light.of_run fun ι ρ w hi hV => by
    obtain ⟨hu, hs⟩ := arrA_spec ht
    obtain ⟨ds, d1, d2, d3⟩ := fill_V (ι := ι) (pl := pl) ((parts.map fun (i, x) => (i, ρ x)).toList) (parts.toList.map fun p => (p.1, ev e p.2)) z.cells (cells (avOf z)) ys (by simp [Function.comp_def]) (fun p h h' => by
      have hp' : p < parts.size := by simpa using h
      simp only [List.getElem_map, Array.toList_map, Array.getElem_toList]
      exact hV _ (by
        rw [ho]
        show _ ∈ (parts.toList.map (·.2)).toArray
        simp only [List.mem_toArray, List.mem_map]
        exact ⟨parts[p], by simp, rfl⟩)) (avOf_size z) (avOf_cells ι z) hv
    refine ⟨.agg ds, ?_, .agg ds d2 d3⟩
    have d1' : Instr.fill (fun i => some (i * s, s)) z.cells (List.map (fun x => (x.fst, ρ x.snd)) parts.toList) = some ds := by
      rw [← d1, Array.toList_map]
      refine fill_congr _ _ fun u hu' => ?_
      obtain ⟨p, hp1, rfl⟩ := List.mem_map.mp hu'
      have := List.all_eq_true.mp hn p hp1
      have hlt : p.1 < n := by simpa using this
      simp [hp, hlt]
    simp only [execOp, ho, Instr.build, Sem.run_bind, run_zero hz, Result.andThen_ok, run_underlying hu, run_sizeOf hs]
    simp
    rw [d1']
    rfl
theorem kIxA {t n el : Nat} {x y : Operand} {α : Type} [Inhabited α] {f : α → AV} {xs : List α} {k : IntKind} {i : Int} {a : α} (h : ix xs i = some a) (hl : xs.length = n) (ho : o.op = .index t x y) (ht : arrA P t = some (n, el, 1)) (hg : aggA P el = some false) (hx : ev e x = .agg (xs.map f)) (hy : ev e y = .int k i) : Light P o e H (f a) [] :=
  Light.of_run fun ι ρ w hi hV => by
    obtain ⟨h0, h1, rfl⟩ := ixE h
    obtain ⟨hu, hs⟩ := arrA_spec ht
    have g1 := hV x (by simp [ho, Op.operands]); rw [hx] at g1
    have g2 := hV y (by simp [ho, Op.operands]); rw [hy] at g2
    obtain ⟨cs, hc, c1, c2⟩ := g1.agg_inv
    have hlt : i.toNat < xs.length := by omega
    have hlc : i.toNat < cs.size := by rw [c1]; simpa using hlt
    refine ⟨cs[i.toNat], ?_, ?_⟩
    · have h2 : i < (n : Int) := by omega
      simp [execOp, ho, hc, g2.int_inv, Instr.index, asIntOf, run_underlying hu, h0, h2, run_sizeOf hs, part, run_isAgg hg, hlc]
    · have := c2 i.toNat (by simpa using hlt)
      rw [getD_lt _ _ hlc] at this
      have e : (xs.map f)[i.toNat]'(by simpa using hlt) = f (xs.getD i.toNat default) := by simp [List.getD_eq_getElem?_getD, hlt]
      rw [e] at this; exact this
end

/-- A block's cells told otherwise. -/
theorem Rel.recellG {B : Base} {ι : Imm} {H : Heap} {w : World} (hr : Rel B ι H w) {b lo hi : Nat} {cs ds : List AV} (hb : H b = some ⟨lo, cs, hi, none⟩) (hl : cs.length = ds.length) (h : ∀ p (h : p < cs.length) (h' : p < ds.length) v, V ι (cs[p]) v → V ι (ds[p]) v) : Rel B ι (H.set b ⟨lo, ds, hi, none⟩) w := by
  refine ⟨hr.below, hr.size, hr.imm, hr.iold, fun c x hx => ?_, fun c x hx p hp => ?_, fun c x hx => ?_, fun c x hx q hq => (by
    by_cases hc : c = b
    · subst hc; rw [Heap.set_same] at hx; cases hx; cases hq
    · rw [Heap.set_ne _ _ hc] at hx; exact hr.obj c x hx q hq)⟩
  · by_cases hc : c = b
    · subst hc; rw [Heap.set_same] at hx; cases hx; have := hr.lo c _ hb; simpa [← hl] using this
    · rw [Heap.set_ne _ _ hc] at hx; exact hr.lo c x hx
  · by_cases hc : c = b
    · subst hc; rw [Heap.set_same] at hx; cases hx
      obtain ⟨v, g1, g2⟩ := hr.cell c _ hb p (by simp only at hp ⊢; omega)
      exact ⟨v, g1, h p _ hp v g2⟩
    · rw [Heap.set_ne _ _ hc] at hx; exact hr.cell c x hx p hp
  · by_cases hc : c = b
    · subst hc; rw [Heap.set_same] at hx; cases hx; exact fun o h1 h2 => hr.room c _ hb o h1 h2
    · rw [Heap.set_ne _ _ hc] at hx; exact hr.room c x hx

theorem Rel.frzInner {B : Base} {ι : Imm} {H : Heap} {w : World} {s : Nat} {v : AV} {ws : List AV} {xss : List (List AV)} (hr : Rel B ι H w) (hO : OwnRows s H v ws xss none) : ∀ n, n ≤ ws.length → ∃ κ G, ι.le κ ∧ Rel B κ G w ∧
    (∀ c x, (∀ i, i < n → c ∉ rowB (ws.getD i .undef)) → H c = some x → G c = some x) ∧ ∀ i, i < n → ∀ (μ : Imm) u, V μ (ws.getD i .undef) u → V κ (.list s (xss.getD i [])) u
  | 0, _ => ⟨ι, H, Imm.le_refl _, hr, fun _ _ _ h => h, fun i h => absurd h (by omega)⟩
  | n + 1, hn => by
    obtain ⟨κ, G, h1, h2, h3, h4⟩ := Rel.frzInner hr hO n (by omega)
    have hN : Own s G (ws.getD n .undef) (xss.getD n []) := (hO.inner n (by omega) (by simp)).keep' fun c hc x hx => h3 c x (fun i hi hc' => hO.far n i (by omega) (by omega) (by omega) (by simp) (by simp) c hc hc') hx
    have small : (∀ (μ κ : Imm) u, V μ (ws.getD n .undef) u → V κ (.list s (xss.getD n [])) u) → ∃ κ G, ι.le κ ∧ Rel B κ G w ∧
        (∀ c x, (∀ i, i < n + 1 → c ∉ rowB (ws.getD i .undef)) → H c = some x → G c = some x) ∧ ∀ i, i < n + 1 → ∀ (μ : Imm) u, V μ (ws.getD i .undef) u → V κ (.list s (xss.getD i [])) u := by
      intro hs
      refine ⟨κ, G, h1, h2, fun c x hc hx => h3 c x (fun i hi => hc i (by omega)) hx, fun i hi μ u hu => ?_⟩
      by_cases e : i = n
      · subst e; exact hs μ κ u hu
      · exact h4 i (by omega) μ u hu
    have hN' := hN
    obtain ⟨g1, g2⟩ := hN
    rcases g2 with ⟨e1, e2⟩ | ⟨b, q, e1, e2⟩ | ⟨b, q, cap, hi, e1, f1, f2, f3, f4⟩
    · exact small fun μ κ u hu => by rw [e1] at hu; rw [e2, hu.nil_inv]; exact .listNil _ _ _
    · exact small fun μ κ u hu => by rw [e1] at hu; rw [e2, hu.slc_inv]; exact .listNil _ _ _
    · obtain ⟨κ', k1, k2, k3⟩ := h2.freeze f1
      refine ⟨κ', G.del b, Imm.le_trans h1 k1, k2, fun c x hc hx => ?_, fun i hi μ u hu => ?_⟩
      · rw [Heap.del_ne]
        · exact h3 c x (fun i hi => hc i (by omega)) hx
        · intro e; subst e; exact hc n (by omega) (by rw [e1]; simp [rowB]; omega)
      · by_cases e : i = n
        · subst e
          rw [e1] at hu
          have : V κ' (.slc b q (xss.getD i []).length cap) u := by rw [hu.slc_inv]; exact .slc _ _ _ _
          exact Fz.V k3 (.row rfl f3 g1 rfl) this
        · exact (h4 i (by omega) μ u hu).mono k1

theorem Sep.erase {H : Heap} : ∀ {L : List Res} {k : Nat} {r : Res}, Sep H L → L[k]? = some r → Sep H (L.eraseIdx k) ∧ ∀ q ∈ L.eraseIdx k, ∀ d ∈ r.blks, d ∉ q.blks
  | [], k, r, _, h => by simp at h
  | q :: l, k, r, ⟨h1, h2, h3⟩, hk => by
    cases k with
    | zero => simp at hk; subst hk; exact ⟨h3, h2⟩
    | succ k =>
      simp only [List.getElem?_cons_succ] at hk
      obtain ⟨i1, i2⟩ := h3.erase hk
      refine ⟨⟨h1, fun p hp => h2 p (List.mem_of_mem_eraseIdx hp), i1⟩, fun p hp d hd => ?_⟩
      rcases List.mem_cons.mp hp with rfl | hp
      · exact fun g => h2 r (List.mem_of_getElem? hk) d g hd
      · exact i2 p hp d hd

section
variable {P : Program} {n : Nat} {Q : Exit → Env → Heap → Prop} {e : Env} {H : Heap}
theorem AWP.frzG {c : Code} {L L' : List Res} {v a : AV} {k : Nat} {r : Res} (hS : Sep H L) (hk : L[k]? = some r) (l : List (Nat × AV)) (hl : FzE e v a l) (hL : FzL v a (L.eraseIdx k) L')
    (go : ∀ B ι w, Rel B ι H w → ∃ κ G, ι.le κ ∧ Rel B κ G w ∧ (∀ u, V κ v u → V κ a u) ∧ ∀ c x, c ∉ r.blks → H c = some x → G c = some x) (h : ∀ G, Sep G L' → AWP P n c Q (envOf l) G) : AWP P n c Q e H := by
  intro B ι a' w hr hE
  obtain ⟨h1, h2⟩ := hS.erase hk
  obtain ⟨κ, G, hle, hr', hva, hG⟩ := go B ι w hr
  obtain ⟨G', g1, g2, g3⟩ := Rel.recells hva hL (h1.keep fun q hq c hc x hx => hG c x (fun g => h2 q hq c g hc) hx) hr'
  refine wp_mono (h G' g2 B κ a' w g1 ⟨hE.size, hE.defers, fun t => ?_⟩) fun _ _ _ k => k.mono hle fun _ _ _ h => h
  have hv := (hE.val t).mono hle
  rcases hl.less t with e1 | e1 | ⟨e1, e2⟩ | ⟨xs, ys, e1, e2, e3⟩
  · rw [e1]; exact .undef _
  · rw [e1]; exact hv
  · rw [e2]; rw [e1] at hv; exact hva _ hv
  · rw [e2]; rw [e1] at hv; exact V.fzC hva e3 hv
/-- Rows of rows that nobody writes any more. -/
theorem AWP.frzRows {c : Code} {L L' : List Res} {k s : Nat} {v : AV} {ws : List AV} {α : Type} {f : α → AV} {xs : List (List α)} (hS : Sep H L) (hk : L[k]? = some (.rows s v ws (xs.map (List.map f)) none)) (l : List (Nat × AV)) (hl : FzE e v (.list 1 (xs.map fun q => .list s (q.map f))) l)
    (hL : FzL v (.list 1 (xs.map fun q => .list s (q.map f))) (L.eraseIdx k) L') (h : ∀ G, Sep G L' → AWP P n c Q (envOf l) G) : AWP P n c Q e H := by
  refine AWP.frzG hS hk l hl hL (fun B ι w hr => ?_) h
  have hO : OwnRows s H v ws (xs.map (List.map f)) none := hS.get hk
  obtain ⟨κ, G, h1, h2, h3, h4⟩ := Rel.frzInner hr hO ws.length (Nat.le_refl _)
  have hOut : Own 1 G v ws := hO.outer.keep' fun c hc x hx => h3 c x (fun i hi hc' => hO.apart i hi (by simp) c hc' hc) hx
  have hK : ∀ c x, c ∉ rowsB v ws none → H c = some x → G c = some x := fun c x hc hx => h3 c x (fun i hi hc' => hc (rowsB_mem.mpr (.inr ⟨i, hi, by simp, hc'⟩))) hx
  have hlen : ws.length = xs.length := by rw [hO.len]; simp
  obtain ⟨g1, g2⟩ := hOut
  rcases g2 with ⟨rfl, rfl⟩ | ⟨b, q, rfl, rfl⟩ | ⟨b, q, cap, hi, rfl, f1, f2, f3, f4⟩
  · have : xs = [] := List.eq_nil_of_length_eq_zero (by simpa using hlen.symm)
    subst this
    exact ⟨κ, G, h1, h2, fun u hu => by rw [hu.nil_inv]; exact .listNil _ _ _, hK⟩
  · have : xs = [] := List.eq_nil_of_length_eq_zero (by simpa using hlen.symm)
    subst this
    exact ⟨κ, G, h1, h2, fun u hu => by rw [hu.slc_inv]; exact .listNil _ _ _, hK⟩
  · have hcell : ∀ w' ∈ ws, cells w' = [w'] := fun w' hw => by
      obtain ⟨i, hi, rfl⟩ := List.getElem_of_mem hw
      have := (hO.inner i hi (by simp)).cells
      simpa [List.getD_eq_getElem?_getD, hi] using this
    have hflat : flat ws = ws := by
      unfold flat
      have : ∀ l : List AV, (∀ w' ∈ l, cells w' = [w']) → l.flatMap cells = l := by
        intro l
        induction l with
        | nil => intro _; rfl
        | cons x l ih => intro h; rw [List.flatMap_cons, h x List.mem_cons_self, ih fun y hy => h y (List.mem_cons_of_mem _ hy)]; rfl
      exact this ws hcell
    rw [hflat] at f1
    have hr3 := h2.recellG (ds := xs.map fun q => AV.list s (q.map f)) f1 (by simp [hlen]) fun p hp hp' u hu => by
      have := h4 p hp κ u (by simpa [List.getD_eq_getElem?_getD, hp] using hu)
      rw [getD_mapL] at this
      have hp2 : p < xs.length := by omega
      simpa [List.getD_eq_getElem?_getD, hp2] using this
    obtain ⟨κ', k1, k2, k3⟩ := hr3.freeze (Heap.set_same _ _ _)
    refine ⟨κ', _, Imm.le_trans h1 k1, k2, fun u hu => ?_, fun c x hc hx => ?_⟩
    · refine Fz.V k3 (.row (by simp [hlen]) f3 (fun y hy => ?_) ?_) hu
      · obtain ⟨q, _, rfl⟩ := List.mem_map.mp hy; rfl
      · simp only [flat]
        have : ∀ l : List (List α), (l.map fun q => AV.list s (q.map f)).flatMap cells = l.map fun q => AV.list s (q.map f) := by
          intro l
          induction l with
          | nil => rfl
          | cons x l ih => rw [List.map_cons, List.flatMap_cons, ih]; rfl
        exact this xs
    · have hcb : c ≠ b := fun e => hc (rowsB_mem.mpr (.inl (by subst e; simp [rowB]; omega)))
      rw [Heap.del_ne _ hcb, Heap.set_ne _ _ hcb]
      exact hK c x hc hx
/-- A variable that nobody writes any more. -/
theorem AWP.frzCell {c : Code} {L L' : List Res} {k b : Nat} {cs : List AV} (hS : Sep H L) (hk : L[k]? = some (.cell b cs)) (l : List (Nat × AV)) (hl : FzE e (.ptr b 0) (.rptr cs) l) (hL : FzL (.ptr b 0) (.rptr cs) (L.eraseIdx k) L') (h : ∀ G, Sep G L' → AWP P n c Q (envOf l) G) : AWP P n c Q e H := by
  refine AWP.frzG hS hk l hl hL (fun B ι w hr => ?_) h
  obtain ⟨hi, hA⟩ : At H b cs := hS.get hk
  obtain ⟨κ, k1, k2, k3⟩ := hr.freeze hA
  refine ⟨κ, _, k1, k2, fun u hu => ?_, fun c x hc hx => ?_⟩
  · have := Fz.V k3 (.ptr (p := 0) rfl) hu
    simpa using this
  · rw [Heap.del_ne]
    · exact hx
    · intro e; subst e; exact hc (by simp [Res.blks])
end

-- calls that read what is owned and hand back what is new
theorem allC {x : AV} {l : List AV} (h : x.one = true) (k : l.all AV.one = true) : (x :: l).all AV.one = true := by rw [List.all_cons, h, k]; rfl
theorem Own.scal {s : Nat} {H : Heap} {v : AV} {xs : List AV} (h : Own s H v xs) : Scal v := by
  obtain ⟨_, h2⟩ := h
  rcases h2 with ⟨rfl, _⟩ | ⟨b, q, rfl, _⟩ | ⟨b, q, cap, hi, rfl, _⟩
  · exact .nil
  · exact .slc _ _ _ _
  · exact .slc _ _ _ _
theorem Sep.scR {H : Heap} {L : List Res} (h : Sep H L) {k s : Nat} {v : AV} {xs : List AV} (hk : L[k]? = some (.row s v xs)) : Scal v := Own.scal (h.get hk : Own _ _ _ _)
theorem Sep.scRs {H : Heap} {L : List Res} (h : Sep H L) {k s : Nat} {v : AV} {ws : List AV} {xss : List (List AV)} {o : Option Nat} (hk : L[k]? = some (.rows s v ws xss o)) : Scal v := by
  have hO : OwnRows s H v ws xss o := h.get hk
  exact hO.outer.scal
def Res.scal : Res → Prop
  | .pool ps => ∀ p ∈ ps, ∀ x ∈ flat p.2, Scal x
  | .row s v xs => ∀ x ∈ flat xs, Scal x
  | .cell b cs => ∀ c ∈ cs, Scal c
  | .snap S => S = []
  | .rows s v ws xss o => o = none ∧ ∀ xs ∈ xss, ∀ x ∈ flat xs, Scal x
def AllScal : List Res → Prop
  | [] => True
  | r :: l => r.scal ∧ AllScal l
theorem AllScal.get : ∀ {L : List Res}, AllScal L → ∀ r ∈ L, r.scal
  | r :: l, ⟨h1, h2⟩, q, hq => by
    rcases List.mem_cons.mp hq with rfl | hq
    · exact h1
    · exact AllScal.get h2 q hq
theorem ScalC.nil : ∀ c ∈ ([] : List AV), Scal c := by simp
theorem ScalC.cons {x : AV} {l : List AV} (h : Scal x) (k : ∀ c ∈ l, Scal c) : ∀ c ∈ x :: l, Scal c := fun c hc => by
  rcases List.mem_cons.mp hc with rfl | hc
  · exact h
  · exact k c hc
theorem Own.scalAt {s : Nat} {G : Heap} {v : AV} {xs : List AV} (h : Own s G v xs) (hs : ∀ x ∈ flat xs, Scal x) : ∀ b ∈ rowB v, ∀ x, G b = some x → ∀ c ∈ x.cs, Scal c := by
  intro b hb x hx c hc
  obtain ⟨_, h2⟩ := h
  rcases h2 with ⟨rfl, _⟩ | ⟨b', q, rfl, _⟩ | ⟨b', q, cap, hi, rfl, g1, _⟩
  · simp [rowB] at hb
  · simp [rowB] at hb
  · have := rowB_mem hb
    subst this
    rw [g1] at hx; cases hx; exact hs c hc
theorem Res.holds.scalAt {G : Heap} {r : Res} (h : r.holds G) (hs : r.scal) : ∀ b ∈ r.blks, ∀ x, G b = some x → ∀ c ∈ x.cs, Scal c := by
  cases r with
  | row s v xs => exact Own.scalAt h hs
  | cell b cs =>
    intro b' hb x hx c hc
    obtain ⟨hi, g⟩ := h
    rw [List.mem_singleton.mp hb, g] at hx; cases hx; exact hs c hc
  | snap S =>
    intro b hb
    rw [show S = [] from hs] at hb
    simp [Res.blks] at hb
  | pool ps =>
    intro b hb
    obtain ⟨p, hp, hb⟩ := List.mem_flatMap.mp hb
    exact Own.scalAt (PoolH.all h p hp) (hs p hp) b hb
  | rows s v ws xss o =>
    have hO : OwnRows s G v ws xss o := h
    obtain ⟨rfl, hs⟩ := hs
    intro b hb x hx c hc
    rcases rowsB_mem.mp hb with hb | ⟨i, g1, g2, g3⟩
    · refine hO.outer.scalAt (fun y hy => ?_) b hb x hx c hc
      obtain ⟨w, hw, hy⟩ := List.mem_flatMap.mp hy
      obtain ⟨i, hi, rfl⟩ := List.getElem_of_mem hw
      have hI := hO.inner i hi (by simp)
      have e : ws.getD i .undef = ws[i] := by simp [List.getD_eq_getElem?_getD, hi]
      rw [e] at hI
      rw [hI.cells, List.mem_singleton] at hy
      rw [hy]; exact hI.scal
    · have hi : i < xss.length := by rw [← hO.len]; exact g1
      refine (hO.inner i g1 g2).scalAt (fun y hy => hs _ ?_ y hy) b g3 x hx c hc
      simp [List.getD_eq_getElem?_getD, hi]
theorem rowsScal {α : Type} {f : α → AV} (h : ∀ a, ∀ c ∈ cells (f a), Scal c) (x : List (List α)) : ∀ xs ∈ x.map (List.map f), ∀ y ∈ flat xs, Scal y := fun xs hx => by
  obtain ⟨q, _, rfl⟩ := List.mem_map.mp hx
  exact Scal.row h
theorem HS.read {P : Program} {f : FuncId} {as bs : List AV} {R : AV → List Res → Prop} {H : Heap} {F : List Res} (h : HS P f bs [] R) (hab : RAs H as bs) (hF : Sep H F) (hs : ∀ v L' G, R v L' → Sep G L' → Scal v ∧ AllScal L') : HC P f as H fun v K => ∃ L', R v L' ∧ (∀ c x, H c = some x → K c = some x) ∧ Sep K (L' ++ F) := by
  have h0 : HC P f bs (fun _ => none) fun v G => ∃ L', R v L' ∧ Sep G L' ∧ ∀ c, c ∉ L'.flatMap Res.blks → G c = none :=
    HC.forget (h (fun _ => none) [] ⟨fun q hq => by simp at hq, by simp, trivial⟩) fun v G ⟨L', g1, g2⟩ => by
      have g3 := g2.append
      refine ⟨fun c => if c ∈ L'.flatMap Res.blks then G c else none, fun c x (hc : (if c ∈ L'.flatMap Res.blks then G c else none) = some x) => (by split at hc; exact hc; cases hc), L', g1, g3.keep fun r hr c hc x hx => ?_, fun c hc => if_neg hc⟩
      show (if c ∈ L'.flatMap Res.blks then G c else none) = some x
      rw [if_pos (List.mem_flatMap.mpr ⟨r, hr, hc⟩)]; exact hx
  refine (HC.frameR h0 hab fun v G ⟨L', g1, g2, g3⟩ => ?_).mono fun v K ⟨G, h1, h2⟩ => ?_
  · obtain ⟨s1, s2⟩ := hs v L' G g1 g2
    refine ⟨s1, fun b x hx c hc => ?_⟩
    by_cases hb : b ∈ L'.flatMap Res.blks
    · obtain ⟨r, r1, r2⟩ := List.mem_flatMap.mp hb
      exact (g2.all r r1).scalAt (s2.get r r1) b r2 x hx c hc
    · rw [g3 b hb] at hx; cases hx
  · obtain ⟨L', g1, g2, g3⟩ := h1
    refine ⟨L', g1, h2.1, Sep.split.mpr ⟨g2.keep fun r hr c hc x hx => (h2.2 c x hx).1, hF.grow h2.1, fun r hr q hq c hc hc' => ?_⟩⟩
    obtain ⟨x, hx⟩ := (g2.all r hr).has hc
    exact (hF.all q hq).alive hc' (h2.2 c x hx).2
section
variable {P : Program} {o : Oper} {e : Env} {H : Heap} {K : AV → Heap → Prop}
theorem hCallSR {A : List Res} (hS : Sep H A) {fo : Operand} {as : Array Operand} {ts : Array TypeId} {f : FuncId} {first caps bs : List AV} {R : AV → List Res → Prop} (ho : o.op = .call ⟨.value fo, as, ts⟩) (hf : ev e fo = .fn (.func f) first caps)
    (hc : callable P f = true) (h : HS P f bs [] R) (hb : RASs A (first ++ as.toList.map (ev e) ++ caps) bs) (hs : ∀ v L' G, R v L' → Sep G L' → Scal v ∧ AllScal L') (k : ∀ v L' G, R v L' → (∀ c x, H c = some x → G c = some x) → Sep G (L' ++ A) → K v G) : Heavy P o e H K :=
  opCall ho hf hc ((HS.read h (hb.to hS.all) hS hs).mono fun v G ⟨L', g1, g2, g3⟩ => k v L' G g1 g2 g3)
end
end Go.Proofs.Ythdoebgikbfndaa.E
