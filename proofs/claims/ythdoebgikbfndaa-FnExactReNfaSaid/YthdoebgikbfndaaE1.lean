/- Regions: in the text's order, and in any order that the edges allow. -/
import Derived.Test.YthdoebgikbfndaaE0
namespace Go.Proofs.Ythdoebgikbfndaa.E
open Go Go.RowKit
set_option linter.unusedVariables false

/-- Is an operation carried out? 'some b': b tells. -/
def wantOf (g : Bool) : AV → Option Bool
  | .bool b => some (b == g)
  | .tup [] => some false
  | _ => none
def want (ops : Array Oper) (o : Oper) (e : Env) : Option Bool :=
  match o.guard with
  | none => some true
  | some (j, g) => match ops[j]? with
    | none => none
    | some oj => match oj.dst with
      | none => none
      | some d => wantOf g (e d)

theorem V.gone_inv {ι : Imm} {v : Value} (h : V ι (.tup []) v) : v = .tuple #[] := by
  cases h with
  | tup cs hl h => congr 1; exact Array.eq_empty_of_size_eq_zero hl
theorem V.gone (ι : Imm) : V ι (.tup []) Go.undef := V.tup #[] rfl fun p h => by simp at h

theorem want_spec {ops : Array Oper} {o : Oper} {e : Env} {a : Act} {n : Nat} {ι : Imm} (hE : EnvR n ι e a) {b : Bool} (h : want ops o e = some b)
    (hn : ∀ j g oj d, o.guard = some (j, g) → ops[j]? = some oj → oj.dst = some d → d < n) :
    Region.wanted o (yielded ops a.tmps) = b := by
  unfold want at h
  unfold Region.wanted
  split at h
  · rename_i hg; rw [hg]; simpa using h
  · rename_i j g hg
    rw [hg]
    simp only []
    split at h
    · simp at h
    · rename_i oj hoj
      split at h
      · simp at h
      · rename_i d hd
        have hdn := hn j g oj d hg hoj hd
        unfold wantOf at h
        split at h
        · rename_i c hc
          have hv := hE.val d
          rw [hc] at hv
          have hb := hv.bool_inv
          have hs : d < a.tmps.size := by rw [hE.size]; exact hdn
          have : a.tmps[d]? = some (.bool c) := by
            rw [Array.getElem?_eq_getElem hs]
            simp [Array.getD, hs] at hb
            rw [hb]
          have hy : yielded ops a.tmps j = some c := by
            simp [yielded, hoj, hd, this]
          rw [hy]
          have h' : (c == g) = b := by simpa using h
          rw [← h']
          cases c <;> cases g <;> rfl
        · rename_i hc
          have hv := hE.val d
          rw [hc] at hv
          have hb := hv.gone_inv
          have hs : d < a.tmps.size := by rw [hE.size]; exact hdn
          have : a.tmps[d]? = some (.tuple #[]) := by
            rw [Array.getElem?_eq_getElem hs]
            simp [Array.getD, hs] at hb
            rw [hb]
          have hy : yielded ops a.tmps j = none := by
            simp [yielded, hoj, hd, this]
          rw [hy]
          have h' : false = b := by simpa using h
          rw [← h']
          cases g <;> rfl
        · simp at h

/-- Are all slots that a region names below n? -/
def small (n : Nat) (ops : Array Oper) : Bool := ops.toList.all fun o => match o.dst with | none => true | some d => Nat.blt d n
theorem small_spec {n : Nat} {ops : Array Oper} (h : small n ops = true) {i : Nat} {o : Oper} (ho : ops[i]? = some o) (d : Nat) (hd : o.dst = some d) : d < n := by
  unfold small at h
  rw [List.all_eq_true] at h
  have := h o (Array.mem_toList_iff.mpr (Array.mem_of_getElem? ho))
  rw [hd] at this
  exact Nat.blt_eq ▸ this

def ASq (P : Program) (ops : Array Oper) (Q : Env → Heap → Prop) : List Nat → Env → Heap → Prop
  | [], e, H => Q e H
  | i :: r, e, H => ∃ o, ops[i]? = some o ∧
      ((want ops o e = some false ∧ ASq P ops Q r (putE e o.dst (.tup [])) H) ∨
       (want ops o e = some true ∧ Heavy P o e H fun v G => ASq P ops Q r (putE e o.dst v) G))

section
variable {P : Program} {n : Nat} {ops : Array Oper} {Q : Exit → Env → Heap → Prop}

theorem ASq_sound (hs : small n ops = true) (B : Base) (ι : Imm) : ∀ (l : List Nat) (κ : Imm) (e : Env) (H : Heap) (a : Act) (w : World), ι.le κ → Rel B κ H w → EnvR n κ e a →
    ASq P ops (Q .normal) l e H → wpOps P ops (LQ B n ι Q) l a w := by
  intro l
  induction l with
  | nil => intro κ e H a w hle hr hE h; exact ⟨κ, e, H, hle, hr, hE, h⟩
  | cons i r ih =>
    intro κ e H a w hle hr hE h
    obtain ⟨o, ho, h⟩ := h
    have hw : ∀ b, want ops o e = some b → Region.wanted o (yielded ops a.tmps) = b := fun b hb => want_spec hE hb fun j g oj d _ hoj hd => small_spec hs hoj d hd
    simp only [wpOps, ho]
    rcases h with ⟨h1, h2⟩ | ⟨h1, h2⟩
    · rw [hw _ h1]
      simp only [Bool.false_eq_true, if_false]
      exact ih κ _ H _ w hle hr (hE.put (fun t ht => small_spec hs ho t ht) (V.gone _)) h2
    · rw [hw _ h1]
      simp only [if_true]
      refine .inl (h2 e (Agr.refl _ _) B κ a w n hr hE _ _ ?_)
      intro v x w' μ G hv hx hle' hr'
      exact ih μ _ G _ w' (Imm.le_trans hle hle') hr' ((hE.mono hle').put (fun t ht => small_spec hs ho t ht) hx) hv

theorem AWP.region {id : Nat} {e : Env} {H : Heap} (hs : small n ops = true) (h : ASq P ops (Q .normal) (List.range ops.size) e H) : AWP P n (.region id ops false) Q e H :=
  fun B ι a w hr hE => wp_region (ASq_sound hs B ι _ ι e H a w (Imm.le_refl _) hr hE h)

theorem ASq.step {i : Nat} {r : List Nat} {K : Env → Heap → Prop} {e : Env} {H : Heap} (o : Oper) (ho : ops[i]? = some o) (hw : want ops o e = some true)
    (h : Heavy P o e H fun v G => ASq P ops K r (putE e o.dst v) G) : ASq P ops K (i :: r) e H := ⟨o, ho, .inr ⟨hw, h⟩⟩
theorem ASq.light {i : Nat} {r : List Nat} {K : Env → Heap → Prop} {e : Env} {H : Heap} {v : AV} {D : List Nat} (o : Oper) (ho : ops[i]? = some o) (hw : want ops o e = some true)
    (h : Light P o e H v D) (k : ASq P ops K r (putE e o.dst v) H) : ASq P ops K (i :: r) e H := ⟨o, ho, .inr ⟨hw, h.heavy k⟩⟩
theorem ASq.off {i : Nat} {r : List Nat} {K : Env → Heap → Prop} {e : Env} {H : Heap} (o : Oper) (ho : ops[i]? = some o) (hw : want ops o e = some false)
    (h : ASq P ops K r (putE e o.dst (.tup [])) H) : ASq P ops K (i :: r) e H := ⟨o, ho, .inl ⟨hw, h⟩⟩

/-- The slots that an operation names. -/
def names (ops : Array Oper) (o : Oper) : List Nat :=
  o.dst.toList ++ (o.op.operands.toList.filterMap fun | .tmp t => some t | _ => none) ++
    (match o.guard with
      | none => []
      | some (j, _) => match ops[j]? with
        | none => []
        | some oj => oj.dst.toList)
def dep (i j : Oper × Nat) : Bool := i.1.after.any (fun x => Nat.beq x.on j.2 && Region.binds .any x)
/-- The same, over any number of operations between. -/
def depT (ops : Array Oper) : Nat → Oper → Nat → Bool
  | 0, _, _ => false
  | k + 1, o, d => o.after.toList.any fun x => Region.binds .any x && (Nat.beq x.on d || match ops[x.on]? with
    | some o' => depT ops k o' d
    | none => false)
def edgesDone (l : Array Bool) (o : Oper) : Prop := ∀ e ∈ o.after, Region.binds .any e = true → l.getD e.on false = true
def ClosedL (ops : Array Oper) (l : Array Bool) : Prop := ∀ (j : Nat) (o : Oper), ops[j]? = some o → l.getD j false = true → edgesDone l o
theorem depT_done {l : Array Bool} (hc : ClosedL ops l) {d : Nat} : ∀ (k : Nat) (o : Oper), edgesDone l o → depT ops k o d = true → l.getD d false = true := by
  intro k
  induction k with
  | zero => intro o _ h; simp [depT] at h
  | succ k ih =>
    intro o he h
    rw [depT, List.any_eq_true] at h
    obtain ⟨x, hx, h⟩ := h
    have hx := Array.mem_toList_iff.mp hx
    rw [Bool.and_eq_true, Bool.or_eq_true] at h
    have hd := he x hx h.1
    rcases h.2 with h2 | h2
    · rw [← Nat.eq_of_beq_eq_true h2]; exact hd
    · split at h2
      · rename_i o' ho'
        exact ih o' (hc x.on o' ho' hd) h2
      · cases h2
theorem ClosedL.set {l : Array Bool} (hc : ClosedL ops l) {i : Nat} (hi : i ∈ Region.ready .any ops l) : ClosedL ops (l.setIfInBounds i true) := by
  obtain ⟨_, oi, hoi, hd⟩ := mem_ready.mp hi
  intro j o ho hj
  have key : edgesDone l o := by
    by_cases e : j = i
    · subst e; rw [hoi] at ho; cases ho; exact hd
    · rw [getD_set_ne false (Ne.symm e)] at hj
      exact hc j o ho hj
  exact fun e he hb => getD_set_true (key e he hb)
theorem ClosedL.start (n : Nat) : ClosedL ops (Array.replicate n false) := by
  intro j o ho hj
  simp only [Array.getD_eq_getD_getElem?, Array.getElem?_replicate] at hj
  split at hj <;> simp at hj
theorem not_depT {l : Array Bool} (hc : ClosedL ops l) {i c k : Nat} {o : Oper} (hi : i ∈ Region.ready .any ops l) (ho : ops[i]? = some o) (hr : c ∈ Region.ready .any ops l) : depT ops k o c = false := by
  rw [← Bool.not_eq_true]
  intro h
  obtain ⟨_, oi, hoi, hd⟩ := mem_ready.mp hi
  rw [ho] at hoi; cases hoi
  have h1 := depT_done hc k o hd h
  obtain ⟨h2, _⟩ := mem_ready.mp hr
  simp only [Array.getD_eq_getD_getElem?] at h1 h2
  cases hl : l[c]? with
  | none => simp [hl] at h2
  | some b => simp [hl] at h1 h2; rw [h1] at h2; simp at h2
/-- Two operations that name a slot that one of them writes are in order. -/
def apart (ops : Array Oper) : Bool :=
  ops.toList.zipIdx.all fun x => match x.1.dst with
    | none => true
    | some d => ops.toList.zipIdx.all fun y => Nat.beq x.2 y.2 || !(names ops y.1).contains d || dep x y || dep y x

theorem apart_spec (h : apart ops = true) {i j : Nat} {x y : Oper} (hx : ops[i]? = some x) (hy : ops[j]? = some y) (hij : i ≠ j) (h1 : dep (x, i) (y, j) = false) (h2 : dep (y, j) (x, i) = false)
    (d : Nat) (hd : x.dst = some d) : d ∉ names ops y := by
  unfold apart at h
  rw [List.all_eq_true] at h
  have mx : (x, i) ∈ ops.toList.zipIdx := by
    rw [List.mem_zipIdx_iff_getElem?]; simpa using hx
  have my : (y, j) ∈ ops.toList.zipIdx := by
    rw [List.mem_zipIdx_iff_getElem?]; simpa using hy
  have h3 := h _ mx
  simp only [hd] at h3
  rw [List.all_eq_true] at h3
  have h4 := h3 _ my
  simp only [h1, h2, Bool.or_false, Bool.or_eq_true, Bool.not_eq_true', List.contains_eq_mem, decide_eq_false_iff_not] at h4
  rcases h4 with h4 | h4
  · exact absurd (Nat.eq_of_beq_eq_true h4) hij
  · exact h4

theorem putE_comm (e : Env) {x y : Option Nat} (u v : AV) (h : ∀ d, x = some d → y ≠ some d) : putE (putE e x u) y v = putE (putE e y v) x u := by
  cases x with
  | none => rfl
  | some s =>
    cases y with
    | none => rfl
    | some t =>
      have hst : s ≠ t := fun k => h s rfl (by rw [k])
      funext q
      simp only [putE]
      by_cases h1 : q = s
      · subst h1; rw [upd_ne _ _ hst, upd_same, upd_same]
      · by_cases h2 : q = t
        · subst h2; rw [upd_same, upd_ne _ _ h1, upd_same]
        · rw [upd_ne _ _ h2, upd_ne _ _ h1, upd_ne _ _ h1, upd_ne _ _ h2]

theorem ev_putE {e : Env} {d : Option Nat} {v : AV} {x : Operand} (h : ∀ t, d = some t → x ≠ .tmp t) : ev (putE e d v) x = ev e x := by
  cases d with
  | none => rfl
  | some t =>
    cases x with
    | tmp s => exact upd_ne e v (fun k => h t rfl (by rw [k]))
    | const c => rfl
    | global g => rfl
    | func f => rfl

theorem agr_putE {e : Env} {d : Option Nat} {v : AV} {o : Oper} (h : ∀ t, d = some t → t ∉ names ops o) : Agr o e (putE e d v) := by
  intro x hx
  refine ev_putE fun t ht hxt => h t ht ?_
  subst hxt
  unfold names
  refine List.mem_append_left _ (List.mem_append_right _ ?_)
  rw [List.mem_filterMap]
  exact ⟨_, Array.mem_toList_iff.mpr hx, rfl⟩

theorem want_putE {e : Env} {d : Option Nat} {v : AV} {o : Oper} (h : ∀ t, d = some t → t ∉ names ops o) : want ops o (putE e d v) = want ops o e := by
  unfold want
  split
  · rfl
  · rename_i j g hg
    split
    · rfl
    · rename_i oj hoj
      split
      · rfl
      · rename_i t ht
        have : putE e d v t = e t := by
          cases d with
          | none => rfl
          | some s =>
            refine upd_ne e v fun k => h s rfl ?_
            unfold names
            rw [hg]
            refine List.mem_append_right _ ?_
            simp [hoj, ht, k]
        rw [this]

/-- An operation that leaves memory as it was and answers alike wherever in the region it comes. -/
def Quiet (P : Program) (o : Oper) (e : Env) (H : Heap) (v : AV) (D : List Nat) : Prop :=
  ∀ (e' : Env) (H' : Heap), Agr o e e' → (∀ b ∈ D, H' b = H b) → ∀ (K : AV → Heap → Prop), K v H' → Heavy P o e' H' K
theorem Quiet.heavy {o : Oper} {e : Env} {H : Heap} {v : AV} {D : List Nat} (h : Quiet P o e H v D) {K : AV → Heap → Prop} (k : K v H) : Heavy P o e H K := h e H (Agr.refl _ _) (fun _ _ => rfl) K k
theorem Light.quiet {o : Oper} {e : Env} {H : Heap} {v : AV} {D : List Nat} (h : Light P o e H v D) : Quiet P o e H v D := fun e' H' ha hb K k =>
  Light.heavy (D := D) (fun e2 H2 ha2 hb2 => h e2 H2 (fun x hx => (ha2 x hx).trans (ha x hx)) fun b hm => (hb2 b hm).trans (hb b hm)) k

/-- A region in whatever order: light operations first, in any order; heavy ones in each order that the edges allow. -/
def ARD (P : Program) (ops : Array Oper) (Q : Env → Heap → Prop) : Nat → Array Bool → List (Nat × List Nat) → Env → Heap → Prop
  | 0, l, D, e, H => Region.ready .any ops l = [] ∧ Q e H
  | k + 1, l, D, e, H =>
    (Region.ready .any ops l = [] ∧ Q e H) ∨
    (∃ i o, i ∈ Region.ready .any ops l ∧ ops[i]? = some o ∧ want ops o e = some false ∧ ARD P ops Q k (l.setIfInBounds i true) D (putE e o.dst (.tup [])) H) ∨
    (∃ i o v Db, i ∈ Region.ready .any ops l ∧ ops[i]? = some o ∧ want ops o e = some true ∧ Quiet P o e H v Db ∧ (∀ b ∈ Db, H b ≠ none) ∧ ARD P ops Q k (l.setIfInBounds i true) ((i, Db) :: D) (putE e o.dst v) H) ∨
    (Region.ready .any ops l ≠ [] ∧ ∀ i ∈ Region.ready .any ops l, ∃ o, ops[i]? = some o ∧ want ops o e = some true ∧
      Heavy P o e H fun v G => (∀ d ∈ D, depT ops ops.size o d.1 = true ∨ ∀ b ∈ d.2, H b ≠ none → G b = H b) ∧ ARD P ops Q k (l.setIfInBounds i true) D (putE e o.dst v) G)

/-- One operation, and what comes behind it: as ARD has it, for whichever is ready. -/
def One (P : Program) (ops : Array Oper) (D : List (Nat × List Nat)) (K : Env → Heap → Prop) (i : Nat) (e : Env) (H : Heap) : Prop :=
  ∃ o, ops[i]? = some o ∧
    ((want ops o e = some false ∧ K (putE e o.dst (.tup [])) H) ∨
     (want ops o e = some true ∧ Heavy P o e H fun v G => (∀ d ∈ D, depT ops ops.size o d.1 = true ∨ ∀ b ∈ d.2, H b ≠ none → G b = H b) ∧ K (putE e o.dst v) G))

theorem One.mono {D : List (Nat × List Nat)} {K K' : Env → Heap → Prop} {i : Nat} {e : Env} {H : Heap} (h : One P ops D K i e H) (k : ∀ e H, K e H → K' e H) : One P ops D K' i e H := by
  obtain ⟨o, ho, h⟩ := h
  refine ⟨o, ho, ?_⟩
  rcases h with ⟨h1, h2⟩ | ⟨h1, h2⟩
  · exact .inl ⟨h1, k _ _ h2⟩
  · exact .inr ⟨h1, h2.mono fun v G g => ⟨g.1, k _ _ g.2⟩⟩

theorem not_dep_of_ready {i j : Nat} {x y : Oper} {l : Array Bool} (hi : i ∈ Region.ready .any ops l) (hj : j ∈ Region.ready .any ops l) (hx : ops[i]? = some x) (hy : ops[j]? = some y) : dep (x, i) (y, j) = false := by
  obtain ⟨_, o, ho, h1⟩ := (mem_ready (md := .any) (ops := ops)).mp hi
  obtain ⟨h2, _⟩ := (mem_ready (md := .any) (ops := ops)).mp hj
  rw [hx] at ho
  cases ho
  unfold dep
  rw [← Bool.not_eq_true, Array.any_eq_true']
  rintro ⟨ed, hed, hb⟩
  rw [Bool.and_eq_true] at hb
  have := h1 ed hed hb.2
  rw [Nat.eq_of_beq_eq_true hb.1] at this
  simp only [Array.getD_eq_getD_getElem?] at this h2
  cases hl : l[j]? with
  | none => simp [hl] at h2
  | some b => simp [hl] at h2 this; simp [h2] at this

theorem ARD.fewer : ∀ (k : Nat) (l : Array Bool) (D D' : List (Nat × List Nat)) (e : Env) (H : Heap) {Q : Env → Heap → Prop}, (∀ d ∈ D', d ∈ D) → ARD P ops Q k l D e H → ARD P ops Q k l D' e H := by
  intro k
  induction k with
  | zero => intro l D D' e H Q hd h; exact h
  | succ k ih =>
    intro l D D' e H Q hd h
    rcases h with h | ⟨i, o, h1, h2, h3, h4⟩ | ⟨i, o, v, Db, h1, h2, h3, h4, h4', h5⟩ | ⟨h1, h2⟩
    · exact .inl h
    · exact .inr (.inl ⟨i, o, h1, h2, h3, ih _ _ _ _ _ hd h4⟩)
    · refine .inr (.inr (.inl ⟨i, o, v, Db, h1, h2, h3, h4, h4', ih _ _ _ _ _ ?_ h5⟩))
      intro d hd'
      rcases List.mem_cons.mp hd' with h | h
      · exact h ▸ List.mem_cons_self
      · exact List.mem_cons_of_mem _ (hd _ h)
    · refine .inr (.inr (.inr ⟨h1, fun i hi => ?_⟩))
      obtain ⟨o, g1, g2, g3⟩ := h2 i hi
      exact ⟨o, g1, g2, g3.mono fun v G g => ⟨fun d hd' => g.1 d (hd d hd'), ih _ _ _ _ _ hd g.2⟩⟩

theorem set_comm (l : Array Bool) {i j : Nat} (h : i ≠ j) : (l.setIfInBounds i true).setIfInBounds j true = (l.setIfInBounds j true).setIfInBounds i true :=
  Array.setIfInBounds_comm true true h

theorem ARD.take (hap : apart ops = true) : ∀ (k : Nat) (l : Array Bool) (D : List (Nat × List Nat)) (e : Env) (H : Heap) {Q : Env → Heap → Prop} (i : Nat), ClosedL ops l → i ∈ Region.ready .any ops l →
    ARD P ops Q (k + 1) l D e H → One P ops D (ARD P ops Q k (l.setIfInBounds i true) D) i e H := by
  intro k
  induction k with
  | zero =>
    intro l D e H Q i hcl hi h
    rcases h with h | ⟨c, o, h1, h2, h3, h4⟩ | ⟨c, o, v, Db, h1, h2, h3, h4, h4', h5⟩ | ⟨h1, h2⟩
    · rw [h.1] at hi; exact absurd hi (by simp)
    · by_cases hci : c = i
      · subst hci; exact ⟨o, h2, .inl ⟨h3, h4⟩⟩
      · have := ready_mono hi (fun k => hci k.symm)
        rw [h4.1] at this; exact absurd this (by simp)
    · by_cases hci : c = i
      · subst hci; exact ⟨o, h2, .inr ⟨h3, h4.heavy ⟨fun d _ => .inr fun _ _ _ => rfl, h5⟩⟩⟩
      · have := ready_mono hi (fun k => hci k.symm)
        rw [h5.1] at this; exact absurd this (by simp)
    · obtain ⟨o, g1, g2, g3⟩ := h2 i hi
      exact ⟨o, g1, .inr ⟨g2, g3⟩⟩
  | succ k ih =>
    intro l D e H Q i hcl hi h
    rcases h with h | ⟨c, oc, h1, h2, h3, h4⟩ | ⟨c, oc, vc, Dc, h1, h2, h3, h4, h4', h5⟩ | ⟨h1, h2⟩
    · rw [h.1] at hi; exact absurd hi (by simp)
    · by_cases hci : c = i
      · subst hci; exact ⟨oc, h2, .inl ⟨h3, h4⟩⟩
      · have hi' := ready_mono (i := c) hi (fun k => hci k.symm)
        have hc' := ready_mono (i := i) h1 hci
        obtain ⟨o, ho, g⟩ := ih _ _ _ _ i (hcl.set h1) hi' h4
        have n1 := not_dep_of_ready h1 hi h2 ho
        have n2 := not_dep_of_ready hi h1 ho h2
        have a1 : ∀ t, oc.dst = some t → t ∉ names ops o := apart_spec hap h2 ho hci n1 n2
        have a2 : ∀ t, o.dst = some t → t ∉ names ops oc := apart_spec hap ho h2 (fun k => hci k.symm) n2 n1
        have a3 : ∀ d, oc.dst = some d → o.dst ≠ some d := fun d hd k => a1 d hd (by unfold names; exact List.mem_append_left _ (List.mem_append_left _ (by simp [k])))
        have back : ∀ (u : AV) (G : Heap), ARD P ops Q k ((l.setIfInBounds c true).setIfInBounds i true) D (putE (putE e oc.dst (.tup [])) o.dst u) G →
            ARD P ops Q (k + 1) (l.setIfInBounds i true) D (putE e o.dst u) G := by
          intro u G hG
          refine .inr (.inl ⟨c, oc, hc', h2, by rw [want_putE a2]; exact h3, ?_⟩)
          rw [set_comm l (fun k => hci k.symm), ← putE_comm e _ _ a3]
          exact hG
        refine ⟨o, ho, ?_⟩
        rw [want_putE a1] at g
        rcases g with ⟨g1, g2⟩ | ⟨g1, g2⟩
        · exact .inl ⟨g1, back _ _ g2⟩
        · refine .inr ⟨g1, fun e' he' => ?_⟩
          have he2 : Agr o (putE e oc.dst (.tup [])) e' := fun x hx => by rw [he' x hx, agr_putE a1 x hx]
          have hh := g2 e' he2
          intro B ι a w n hr hE next Q' hk
          exact hh B ι a w n hr hE next Q' fun v r w' κ G gv => hk v r w' κ G ⟨gv.1, back _ _ gv.2⟩
    · by_cases hci : c = i
      · subst hci; exact ⟨oc, h2, .inr ⟨h3, h4.heavy ⟨fun d _ => .inr fun _ _ _ => rfl, ARD.fewer _ _ _ _ _ _ (fun d hd => List.mem_cons_of_mem _ hd) h5⟩⟩⟩
      · have hi' := ready_mono (i := c) hi (fun k => hci k.symm)
        have hc' := ready_mono (i := i) h1 hci
        obtain ⟨o, ho, g⟩ := ih _ _ _ _ i (hcl.set h1) hi' h5
        have n1 := not_dep_of_ready h1 hi h2 ho
        have n2 := not_dep_of_ready hi h1 ho h2
        have a1 : ∀ t, oc.dst = some t → t ∉ names ops o := apart_spec hap h2 ho hci n1 n2
        have a2 : ∀ t, o.dst = some t → t ∉ names ops oc := apart_spec hap ho h2 (fun k => hci k.symm) n2 n1
        have a3 : ∀ d, oc.dst = some d → o.dst ≠ some d := fun d hd k => a1 d hd (by unfold names; exact List.mem_append_left _ (List.mem_append_left _ (by simp [k])))
        have back : ∀ (u : AV) (G : Heap), (∀ b ∈ Dc, G b = H b) → ARD P ops Q k ((l.setIfInBounds c true).setIfInBounds i true) ((c, Dc) :: D) (putE (putE e oc.dst vc) o.dst u) G →
            ARD P ops Q (k + 1) (l.setIfInBounds i true) D (putE e o.dst u) G := by
          intro u G hD hG
          refine .inr (.inr (.inl ⟨c, oc, vc, Dc, hc', h2, by rw [want_putE a2]; exact h3, ?_, fun b hb => by rw [hD b hb]; exact h4' b hb, ?_⟩))
          · intro e' H' he' hH'
            exact h4 e' H' (fun x hx => by rw [he' x hx, agr_putE a2 x hx]) fun b hb => by rw [hH' b hb, hD b hb]
          · rw [set_comm l (fun k => hci k.symm), ← putE_comm e _ _ a3]
            exact hG
        refine ⟨o, ho, ?_⟩
        rw [want_putE a1] at g
        rcases g with ⟨g1, g2⟩ | ⟨g1, g2⟩
        · exact .inl ⟨g1, back _ _ (fun _ _ => rfl) g2⟩
        · refine .inr ⟨g1, fun e' he' => ?_⟩
          have he2 : Agr o (putE e oc.dst vc) e' := fun x hx => by rw [he' x hx, agr_putE a1 x hx]
          have hh := g2 e' he2
          intro B ι a w n hr hE next Q' hk
          refine hh B ι a w n hr hE next Q' fun v r w' κ G gv => hk v r w' κ G ⟨fun d hd => gv.1 d (List.mem_cons_of_mem _ hd), back _ _ ?_ gv.2⟩
          rcases gv.1 (c, Dc) List.mem_cons_self with hd | hd
          · rw [not_depT hcl hi ho h1] at hd; exact absurd hd (by simp)
          · exact fun b hb => hd b hb (h4' b hb)
    · obtain ⟨o, g1, g2, g3⟩ := h2 i hi
      exact ⟨o, g1, .inr ⟨g2, g3⟩⟩

theorem ARD_sound (hs : small n ops = true) (hap : apart ops = true) (B : Base) (ι : Imm) : ∀ (k : Nat) (l : Array Bool) (D : List (Nat × List Nat)) (κ : Imm) (e : Env) (H : Heap) (a : Act) (w : World),
    ClosedL ops l → ι.le κ → Rel B κ H w → EnvR n κ e a → ARD P ops (Q .normal) k l D e H → wpAny P .any ops (LQ B n ι Q) k l a w := by
  intro k
  induction k with
  | zero => intro l D κ e H a w hcl hle hr hE h; exact ⟨h.1, κ, e, H, hle, hr, hE, h.2⟩
  | succ k ih =>
    intro l D κ e H a w hcl hle hr hE h
    refine ⟨fun hnil => ?_, fun i hi => ?_⟩
    · rcases h with h | ⟨i, o, h1, _⟩ | ⟨i, o, v, Db, h1, _⟩ | ⟨h1, _⟩
      · exact ⟨κ, e, H, hle, hr, hE, h.2⟩
      · rw [hnil] at h1; exact absurd h1 (by simp)
      · rw [hnil] at h1; exact absurd h1 (by simp)
      · exact absurd hnil h1
    · obtain ⟨o, ho, h⟩ := ARD.take hap k l D e H i hcl hi h
      have hw : ∀ b, want ops o e = some b → Region.wanted o (yielded ops a.tmps) = b := fun b hb => want_spec hE hb fun j g oj d _ hoj hd => small_spec hs hoj d hd
      simp only [wpOp, ho]
      rcases h with ⟨h1, h2⟩ | ⟨h1, h2⟩
      · rw [hw _ h1]
        simp only [Bool.false_eq_true, if_false]
        exact ih _ D κ _ H _ w (hcl.set hi) hle hr (hE.put (fun t ht => small_spec hs ho t ht) (V.gone _)) h2
      · rw [hw _ h1]
        simp only [if_true]
        refine .inl (h2 e (Agr.refl _ _) B κ a w n hr hE _ _ ?_)
        intro v x w' μ G hv hx hle' hr'
        exact ih _ D μ _ G _ w' (hcl.set hi) (Imm.le_trans hle hle') hr' ((hE.mono hle').put (fun t ht => small_spec hs ho t ht) hx) hv.2

theorem Rel.drew {B : Base} {ι : Imm} {H : Heap} {w : World} (hr : Rel B ι H w) : Rel B ι H { w with drawn := w.drawn + 1 } :=
  ⟨hr.below.drew, hr.size, hr.imm, hr.iold, hr.lo, hr.cell, hr.room, hr.obj⟩

theorem AWP.regionD {id : Nat} {e : Env} {H : Heap} (hm : P.follows .mixedOrders = true) (hs : small n ops = true) (hap : apart ops = true)
    (h : ARD P ops (Q .normal) ops.size (Array.replicate ops.size false) [] e H) : AWP P n (.region id ops true) Q e H :=
  fun B ι a w hr hE => wp_region_any hm (ARD_sound hs hap B ι _ _ [] ι e H a _ (ClosedL.start _) (Imm.le_refl _) hr.drew hE h)


/-- Operations that may change memory, or call. -/
def heavyB (o : Oper) : Bool := match o.op with
  | .alloc _ | .box .. | .buildSlice .. | .makeSlice .. | .store .. | .call ⟨.value _, _, _⟩ | .call ⟨.invoke .., _, _⟩ => true
  | .call ⟨.builtin .append, _, _⟩ | .call ⟨.builtin .copy, _, _⟩ | .call ⟨.builtin .clear, _, _⟩ | .call ⟨.builtin .delete, _, _⟩ => true
  | .makeMap .. | .mapUpdate .. | .insert .. | .mapEntry .. | .entryStore .. | .lookup .. | .range .. | .next .. | .entry .. => true
  | _ => false

/-- An order of a region's operations; those that are marked come where each alone is ready. -/
def okOrd (ops : Array Oper) : Array Bool → List (Nat × Bool) → Bool
  | l, [] => (Region.ready .any ops l).isEmpty
  | l, (i, m) :: r => (Region.ready .any ops l).contains i && (!m || (Region.ready .any ops l) == [i]) && okOrd ops (l.setIfInBounds i true) r

/-- A region by such an order. -/
def ARL (P : Program) (ops : Array Oper) (Q : Env → Heap → Prop) : List (Nat × Bool × Oper) → List (Nat × List Nat) → Env → Heap → Prop
  | [], D, e, H => Q e H
  | (i, m, o) :: r, D, e, H =>
      (want ops o e = some false ∧ ARL P ops Q r D (putE e o.dst (.tup [])) H) ∨
      (want ops o e = some true ∧ ∃ v Db, Quiet P o e H v Db ∧ (∀ b ∈ Db, H b ≠ none) ∧ ARL P ops Q r ((i, Db) :: D) (putE e o.dst v) H) ∨
      (want ops o e = some true ∧ m = true ∧ Heavy P o e H fun v G => (∀ d ∈ D, depT ops ops.size o d.1 = true ∨ ∀ b ∈ d.2, H b ≠ none → G b = H b) ∧ ARL P ops Q r D (putE e o.dst v) G)

theorem ARL_ARD : ∀ (r : List (Nat × Bool × Oper)) (l : Array Bool) (D : List (Nat × List Nat)) (e : Env) (H : Heap) {Q : Env → Heap → Prop}, okOrd ops l (r.map fun x => (x.1, x.2.1)) = true → (∀ x ∈ r, ops[x.1]? = some x.2.2) → ARL P ops Q r D e H → ARD P ops Q r.length l D e H := by
  intro r
  induction r with
  | nil => intro l D e H Q ho hx h; exact ⟨List.isEmpty_iff.mp ho, h⟩
  | cons x r ih =>
    obtain ⟨i, m, o⟩ := x
    intro l D e H Q ho hx h
    simp only [List.map_cons, okOrd, Bool.and_eq_true] at ho
    obtain ⟨⟨h1, h2⟩, h3⟩ := ho
    have hi : i ∈ Region.ready .any ops l := by simpa using h1
    have hop : ops[i]? = some o := hx (i, m, o) List.mem_cons_self
    have hx' : ∀ y ∈ r, ops[y.1]? = some y.2.2 := fun y hy => hx y (List.mem_cons_of_mem _ hy)
    rcases h with ⟨g1, g2⟩ | ⟨g1, v, Db, g2, g3, g4⟩ | ⟨g1, g0, g2⟩
    · exact .inr (.inl ⟨i, o, hi, hop, g1, ih _ _ _ _ h3 hx' g2⟩)
    · exact .inr (.inr (.inl ⟨i, o, v, Db, hi, hop, g1, g2, g3, ih _ _ _ _ h3 hx' g4⟩))
    · simp only [g0, Bool.not_true, Bool.false_or, beq_iff_eq] at h2
      refine .inr (.inr (.inr ⟨by rw [h2]; simp, fun j hj => ?_⟩))
      rw [h2] at hj
      obtain rfl := List.mem_singleton.mp hj
      exact ⟨o, hop, g1, g2.mono fun v G g => ⟨g.1, ih _ _ _ _ h3 hx' g.2⟩⟩

/-- The operations of an order. -/
def pick (ops : Array Oper) : List (Nat × Bool) → Option (List (Nat × Bool × Oper))
  | [] => some []
  | (i, m) :: r => match ops[i]?, pick ops r with
    | some o, some l => some ((i, m, o) :: l)
    | _, _ => none
theorem pick_spec : ∀ {l : List (Nat × Bool)} {r : List (Nat × Bool × Oper)}, pick ops l = some r → (r.map fun x => (x.1, x.2.1)) = l ∧ ∀ x ∈ r, ops[x.1]? = some x.2.2
  | [], r, h => by simp [pick] at h; subst h; simp
  | (i, m) :: l, r, h => by
    unfold pick at h
    split at h
    · rename_i o t ho ht
      simp at h; subst h
      obtain ⟨h1, h2⟩ := pick_spec ht
      refine ⟨by simp [h1], fun x hx => ?_⟩
      rcases List.mem_cons.mp hx with rfl | hx
      · exact ho
      · exact h2 x hx
    · simp at h

theorem AWP.seqD {id : Nat} {y : Code} {Q : Exit → Env → Heap → Prop} {e : Env} {H : Heap} (ord : List (Nat × Bool)) {r : List (Nat × Bool × Oper)} (hm : P.follows .mixedOrders = true) (hs : (small n ops && apart ops && Nat.beq ord.length ops.size && okOrd ops (Array.replicate ops.size false) ord) = true)
    (hp : pick ops ord = some r) (h : ARL P ops (AWP P n y Q) r [] e H) : AWP P n (.seq (.region id ops true) y) Q e H := by
  simp only [Bool.and_eq_true] at hs
  obtain ⟨⟨⟨h1, h2⟩, h3⟩, h4⟩ := hs
  obtain ⟨k1, k2⟩ := pick_spec hp
  have hl : r.length = ops.size := by rw [← Nat.eq_of_beq_eq_true h3, ← k1]; simp
  have := ARL_ARD r (Array.replicate ops.size false) [] e H (by rw [k1]; exact h4) k2 h
  rw [hl] at this
  exact AWP.seq (AWP.regionD hm h1 h2 this)
theorem AWP.lastD {id : Nat} {Q : Exit → Env → Heap → Prop} {e : Env} {H : Heap} (ord : List (Nat × Bool)) {r : List (Nat × Bool × Oper)} (hm : P.follows .mixedOrders = true) (hs : (small n ops && apart ops && Nat.beq ord.length ops.size && okOrd ops (Array.replicate ops.size false) ord) = true)
    (hp : pick ops ord = some r) (h : ARL P ops (Q .normal) r [] e H) : AWP P n (.region id ops true) Q e H := by
  simp only [Bool.and_eq_true] at hs
  obtain ⟨⟨⟨h1, h2⟩, h3⟩, h4⟩ := hs
  obtain ⟨k1, k2⟩ := pick_spec hp
  have hl : r.length = ops.size := by rw [← Nat.eq_of_beq_eq_true h3, ← k1]; simp
  have := ARL_ARD r (Array.replicate ops.size false) [] e H (by rw [k1]; exact h4) k2 h
  rw [hl] at this
  exact AWP.regionD hm h1 h2 this

/-- A region in the text's order, operation by operation. -/
def ASL (P : Program) (ops : Array Oper) (Q : Env → Heap → Prop) : List Oper → Env → Heap → Prop
  | [], e, H => Q e H
  | o :: r, e, H =>
      (want ops o e = some false ∧ ASL P ops Q r (putE e o.dst (.tup [])) H) ∨
      (want ops o e = some true ∧ Heavy P o e H fun v G => ASL P ops Q r (putE e o.dst v) G)
theorem ASL_ASq : ∀ (r : List Oper) (k : Nat) (e : Env) (H : Heap) {Q : Env → Heap → Prop}, ops.toList.drop k = r → ASL P ops Q r e H → ASq P ops Q (List.range' k r.length) e H := by
  intro r
  induction r with
  | nil => intro k e H Q hd h; exact h
  | cons o r ih =>
    intro k e H Q hd h
    have hk : ops[k]? = some o := by
      have : (ops.toList.drop k)[0]? = some o := by rw [hd]; rfl
      simpa using this
    have hd' : ops.toList.drop (k + 1) = r := by
      rw [← List.tail_drop, hd]; rfl
    simp only [List.length_cons, List.range'_succ]
    rcases h with ⟨g1, g2⟩ | ⟨g1, g2⟩
    · exact ⟨o, hk, .inl ⟨g1, ih _ _ _ hd' g2⟩⟩
    · exact ⟨o, hk, .inr ⟨g1, g2.mono fun v G g => ih _ _ _ hd' g⟩⟩
theorem AWP.seqR {id : Nat} {y : Code} {Q : Exit → Env → Heap → Prop} {e : Env} {H : Heap} (hs : small n ops = true) (h : ASL P ops (AWP P n y Q) ops.toList e H) : AWP P n (.seq (.region id ops false) y) Q e H := by
  refine AWP.seq (AWP.region hs ?_)
  have := ASL_ASq ops.toList 0 e H rfl h
  rw [List.range_eq_range']
  rw [Array.length_toList] at this
  exact this
theorem AWP.lastR {id : Nat} {Q : Exit → Env → Heap → Prop} {e : Env} {H : Heap} (hs : small n ops = true) (h : ASL P ops (Q .normal) ops.toList e H) : AWP P n (.region id ops false) Q e H := by
  refine AWP.region hs ?_
  have := ASL_ASq ops.toList 0 e H rfl h
  rw [List.range_eq_range']
  simpa using this

end
end Go.Proofs.Ythdoebgikbfndaa.E
