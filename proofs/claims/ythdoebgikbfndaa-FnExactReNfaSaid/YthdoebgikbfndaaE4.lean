/- Memory that a call makes or writes; calls by their contracts; the way into a function and out of it. -/
import Derived.Test.YthdoebgikbfndaaE3
namespace Go.Proofs.Ythdoebgikbfndaa.E
open Go Go.RowKit
set_option linter.unusedVariables false

def AV.one : AV → Bool
  | .int .. | .bool .. | .str .. | .nil | .list .. | .slc .. | .nilptr | .ptr .. | .rptr .. | .fn .. => true
  | _ => false
def AV.told : AV → Bool
  | .undef => false
  | _ => true

theorem V.one {ι : Imm} {a : AV} {v : Value} (h : V ι a v) (ha : a.one = true) : v.oneCell' = true := by
  cases h <;> first | rfl | simp [AV.one] at ha

theorem V.cells {ι : Imm} {a : AV} {v : Value} (h : V ι a v) (ha : a.told = true) : v.cells.size = (cells a).length ∧ ∀ p (hp : p < (cells a).length), V ι ((cells a)[p]) (v.cells.getD p Go.undef) := by
  have one : ∀ {a : AV} {v : Value}, E.cells a = [a] → v.cells = #[v] → V ι a v → v.cells.size = (E.cells a).length ∧ ∀ p (hp : p < (E.cells a).length), V ι ((E.cells a)[p]) (v.cells.getD p Go.undef) := by
    intro a v h1 h2 h3
    rw [h2]
    refine ⟨by simp [h1], fun p hp => ?_⟩
    have : p = 0 := by rw [h1] at hp; simpa using hp
    subst this
    simp only [h1]
    exact h3
  have h0 := h
  cases h with
  | undef => simp [AV.told] at ha
  | agg cs hl hc => exact ⟨hl, hc⟩
  | _ => exact one rfl rfl h0

theorem avOf_size (v : Value) : v.cells.size = (cells (avOf v)).length := by
  unfold avOf
  split
  case h_6 => simp [cells, Value.cells]
  case h_7 h => cases v <;> first | rfl | exact absurd rfl (h _)
  all_goals rfl
theorem avOf_cells (ι : Imm) (v : Value) : ∀ p (hp : p < (cells (avOf v)).length), V ι ((cells (avOf v))[p]) (v.cells.getD p Go.undef) := by
  have h := avOf_V ι v
  generalize avOf v = a at h
  cases ha : a.told with
  | true => exact (h.cells ha).2
  | false =>
    intro p hp
    cases a <;> simp [AV.told] at ha
    have : p = 0 := by simp [cells] at hp; exact hp
    subst this
    simp only [cells, List.getElem_cons_zero]
    exact .undef _

theorem blt {w : World} {a : Addr} {v : Value} (h : w.cell? a = some v) : a.block < w.heap.size := World.block_lt_of_cell? _ _ h
theorem cellOld {w : World} {a : Addr} {v : Value} (o : Obj) (h : w.cell? a = some v) : (w.alloc o).cell? a = some v := by
  rw [World.cell?_alloc_lt _ _ _ (blt h)]; exact h
theorem frozenOld {w : World} {a : Addr} (o : Obj) (h : a.block < w.heap.size) : (w.alloc o).frozen? a = w.frozen? a := World.frozen?_alloc_old _ _ _ (by omega)

theorem setSame {w : World} {a : Addr} {v u : Value} (h : w.cell? a = some u) : (w.setCell a v).cell? a = some v := World.cell?_setCell_same _ _ _ h
theorem setOther {w : World} {b o c q : Nat} {v u : Value} (h : ¬ (c = b ∧ q = o)) (k : w.cell? ⟨c, q, none⟩ = some u) : (w.setCell ⟨b, o, none⟩ v).cell? ⟨c, q, none⟩ = some u := by
  rw [World.cell?_setCell_other _ _ _ _ (fun e => h (by cases e; exact ⟨rfl, rfl⟩))]; exact k

theorem Rel.fresh {B : Base} {ι : Imm} {H : Heap} {w : World} (hr : Rel B ι H w) : H w.heap.size = none := by
  cases h : H w.heap.size with
  | none => rfl
  | some x => exact absurd (hr.lo _ x h).2.1 (by omega)
theorem Rel.ifresh {B : Base} {ι : Imm} {H : Heap} {w : World} (hr : Rel B ι H w) {b o : Nat} (hb : w.heap.size ≤ b) : ι b o = none := by
  cases h : ι b o with
  | none => rfl
  | some x => exact absurd (blt (hr.imm _ _ _ h)) (by simp; omega)

theorem cell_new (w : World) (cs : Array Value) (t : TypeId) (o : Nat) : (w.alloc (.cells cs t)).cell? ⟨w.heap.size, o, none⟩ = cs[o]? := World.cell?_alloc_new w cs t o
theorem frozen_new (w : World) (cs : Array Value) (t : TypeId) (o : Nat) : (w.alloc (.cells cs t)).frozen? ⟨w.heap.size, o, none⟩ = false := World.frozen?_alloc_new w cs t o

theorem Rel.alloc {B : Base} {ι : Imm} {H : Heap} {w : World} (hr : Rel B ι H w) (cs : Array Value) (t : TypeId) (l : List AV) (hl : l.length ≤ cs.size)
    (hc : ∀ p (h : p < l.length), V ι (l[p]) (cs.getD p Go.undef)) : Rel B ι (H.set w.heap.size ⟨0, l, cs.size, none⟩) (w.alloc (.cells cs t)) := by
  refine ⟨hr.below.alloc hr.size _, by simp; have := hr.size; omega, fun b o v h => ?_, hr.iold, fun b x h => ?_, fun b x h p hp => ?_, fun b x h o h1 h2 => ?_, fun b x h q hq => (by
    by_cases hb : b = w.heap.size
    · subst hb; rw [Heap.set_same] at h; cases h; cases hq
    · rw [Heap.set_ne _ _ hb] at h
      exact ⟨(hr.obj b x h q hq).1, by rw [Below.heap_alloc w _ b (hr.lo b x h).2.1]; exact (hr.obj b x h q hq).2⟩)⟩
  · have := hr.imm _ _ _ h
    exact cellOld _ this
  · by_cases hb : b = w.heap.size
    · subst hb
      rw [Heap.set_same] at h
      cases h
      exact ⟨hr.size, by simp, by simpa using hl⟩
    · rw [Heap.set_ne _ _ hb] at h
      obtain ⟨h1, h2, h3⟩ := hr.lo b x h
      exact ⟨h1, by simp; omega, h3⟩
  · by_cases hb : b = w.heap.size
    · subst hb
      rw [Heap.set_same] at h
      cases h
      simp only [Nat.zero_add] at hp ⊢
      have hp' : p < cs.size := by omega
      refine ⟨cs[p], by rw [cell_new]; exact Array.getElem?_eq_getElem hp', ?_⟩
      have := hc p hp
      rw [getD_lt _ _ hp'] at this
      exact this
    · rw [Heap.set_ne _ _ hb] at h
      obtain ⟨v, h1, h2⟩ := hr.cell b x h p hp
      exact ⟨v, cellOld _ h1, h2⟩
  · by_cases hb : b = w.heap.size
    · subst hb
      rw [Heap.set_same] at h
      cases h
      refine ⟨⟨cs[o], by rw [cell_new]; exact Array.getElem?_eq_getElem h2⟩, frozen_new _ _ _ _, hr.ifresh (Nat.le_refl _)⟩
    · rw [Heap.set_ne _ _ hb] at h
      obtain ⟨⟨v, h3⟩, h4, h5⟩ := hr.room b x h o h1 h2
      exact ⟨⟨v, cellOld _ h3⟩, by rw [frozenOld _ (hr.lo b x h).2.1]; exact h4, h5⟩

def Imm.new (ι : Imm) (b : Nat) (cs : Array Value) : Imm := fun c o => if c = b then cs[o]? else ι c o

theorem Rel.allocI {B : Base} {ι : Imm} {H : Heap} {w : World} (hr : Rel B ι H w) (cs : Array Value) (t : TypeId) :
    Rel B (ι.new w.heap.size cs) H (w.alloc (.cells cs t)) ∧ ι.le (ι.new w.heap.size cs) := by
  have hle : ι.le (ι.new w.heap.size cs) := by
    intro b o v h
    unfold Imm.new
    rw [if_neg]
    · exact h
    · intro hb; subst hb; rw [hr.ifresh (Nat.le_refl _)] at h; exact absurd h (by simp)
  refine ⟨⟨hr.below.alloc hr.size _, by simp; have := hr.size; omega, fun b o v h => ?_, fun b o h => ?_, fun b x h => ?_, fun b x h p hp => ?_, fun b x h o h1 h2 => ?_, fun b x h q hq => ⟨(hr.obj b x h q hq).1, by rw [Below.heap_alloc w _ b (hr.lo b x h).2.1]; exact (hr.obj b x h q hq).2⟩⟩, hle⟩
  · unfold Imm.new at h
    split at h
    · rename_i hb; subst hb; rw [cell_new]; exact h
    · have := hr.imm _ _ _ h
      exact cellOld _ this
  · unfold Imm.new
    rw [if_neg (by have := hr.size; omega)]; exact hr.iold b o h
  · obtain ⟨h1, h2, h3⟩ := hr.lo b x h
    exact ⟨h1, by simp; omega, h3⟩
  · obtain ⟨v, h1, h2⟩ := hr.cell b x h p hp
    exact ⟨v, cellOld _ h1, h2.mono hle⟩
  · obtain ⟨⟨v, h3⟩, h4, h5⟩ := hr.room b x h o h1 h2
    have hb := (hr.lo b x h).2.1
    exact ⟨⟨v, cellOld _ h3⟩, by rw [frozenOld _ hb]; exact h4, by unfold Imm.new; rw [if_neg (by omega)]; exact h5⟩

/-- A written cell. -/
theorem Rel.store {B : Base} {ι : Imm} {H : Heap} {w : World} (hr : Rel B ι H w) {b : Nat} {x : Blk} (hb : H b = some x) {p : Nat} {v : AV} {u : Value} (hv : V ι v u) (l : List AV)
    (hp : x.lo + p < x.hi) (hl : x.lo + l.length ≤ x.hi) (hq : ∀ q (h : q < l.length), q = p ∧ l[q] = v ∨ q ≠ p ∧ ∃ h' : q < x.cs.length, l[q] = x.cs[q]) :
    Rel B ι (H.set b ⟨x.lo, l, x.hi, x.ob⟩) (w.setCell ⟨b, x.lo + p, none⟩ u) := by
  obtain ⟨⟨u0, hu0⟩, hf, hi⟩ := hr.room b x hb (x.lo + p) (by omega) hp
  refine ⟨hr.below.setCell (hr.lo b x hb).1 u, by simp; exact hr.size, fun c o y h => ?_, hr.iold, fun c y h => ?_, fun c y h q hq' => ?_, fun c y h o h1 h2 => ?_, fun c y h q hq' => (by
    by_cases hc : c = b
    · subst hc; rw [Heap.set_same] at h; cases h
      have := (hr.obj c x hb q hq').1
      omega
    · rw [Heap.set_ne _ _ hc] at h
      exact ⟨(hr.obj c y h q hq').1, by rw [Below.heap_setCell w _ u c hc]; exact (hr.obj c y h q hq').2⟩)⟩
  · exact setOther (fun k => by obtain ⟨rfl, rfl⟩ := k; rw [hi] at h; exact absurd h (by simp)) (hr.imm _ _ _ h)
  · by_cases hc : c = b
    · subst hc; rw [Heap.set_same] at h; cases h
      obtain ⟨h1, h2, h3⟩ := hr.lo c x hb
      exact ⟨h1, by simpa using h2, hl⟩
    · rw [Heap.set_ne _ _ hc] at h
      obtain ⟨h1, h2, h3⟩ := hr.lo c y h
      exact ⟨h1, by simpa using h2, h3⟩
  · by_cases hc : c = b
    · subst hc; rw [Heap.set_same] at h; cases h
      simp only at hq' ⊢
      rcases hq q hq' with ⟨rfl, h2⟩ | ⟨h1, h2, h3⟩
      · exact ⟨u, setSame hu0, by rw [h2]; exact hv⟩
      · obtain ⟨z, g1, g2⟩ := hr.cell c x hb q h2
        exact ⟨z, setOther (fun k => h1 (by omega)) g1, by rw [h3]; exact g2⟩
    · rw [Heap.set_ne _ _ hc] at h
      obtain ⟨z, g1, g2⟩ := hr.cell c y h q hq'
      exact ⟨z, setOther (fun k => hc k.1) g1, g2⟩
  · by_cases hc : c = b
    · subst hc; rw [Heap.set_same] at h; cases h
      obtain ⟨⟨z, g1⟩, g2, g3⟩ := hr.room c x hb o h1 h2
      refine ⟨?_, by rw [World.frozen?_setCell]; exact g2, g3⟩
      by_cases ho : o = x.lo + p
      · subst ho; exact ⟨u, setSame hu0⟩
      · exact ⟨z, setOther (fun k => ho k.2) g1⟩
    · rw [Heap.set_ne _ _ hc] at h
      obtain ⟨⟨z, g1⟩, g2, g3⟩ := hr.room c y h o h1 h2
      exact ⟨⟨z, setOther (fun k => hc k.1) g1⟩, by rw [World.frozen?_setCell]; exact g2, g3⟩

theorem Heap.set_set (H : Heap) (b : Nat) (x y : Blk) : (H.set b x).set b y = H.set b y := by
  funext c; unfold Heap.set; split <;> rfl
theorem Heap.keep {H : Heap} {b c : Nat} {x y : Blk} (hb : H b = none) (h : H c = some y) : H.set b x c = some y := by
  rw [Heap.set_ne]
  · exact h
  · intro k; subst k; rw [hb] at h; exact absurd h (by simp)
theorem Heap.keepNe {H : Heap} {b c : Nat} {x y : Blk} (hb : c ≠ b) (h : H c = some y) : H.set b x c = some y := by rw [Heap.set_ne _ _ hb]; exact h

def setAll (cs : List AV) (p : Nat) : List AV → List AV
  | [] => cs
  | v :: r => setAll (cs.set p v) (p + 1) r
theorem setAll_length : ∀ (l cs : List AV) (p : Nat), (setAll cs p l).length = cs.length
  | [], _, _ => rfl
  | v :: r, cs, p => by simp [setAll, setAll_length r]

section
variable {P : Program} {o : Oper} {e : Env} {H : Heap} {K : AV → Heap → Prop}

theorem opBox {t : Nat} {x : Operand} {v : AV} (ho : o.op = .box t x) (hx : ev e x = v) (hv : v.told = true) (h : ∀ b, H b = none → K (.ptr b 0) (H.set b ⟨0, cells v, (cells v).length, none⟩)) : Heavy P o e H K := by
  intro e' he B ι a w n hr hE next Q hk
  have h1 := hE.ev x
  rw [he x (by simp [ho, Op.operands]), hx] at h1
  obtain ⟨g1, g2⟩ := h1.cells hv
  unfold Oper.wp
  have : (execOp a.eval o).run P w = .ok (.value (.pointer (some ⟨w.heap.size, 0, none⟩))) (w.alloc (.cells (a.eval x).cells t)) := by
    simp [execOp, ho, Instr.box, newVar, newRow]
  rw [this]
  refine hk _ _ _ ι _ (h w.heap.size hr.fresh) (.ptr _ _) (Imm.le_refl _) ?_
  have := hr.alloc (a.eval x).cells t (cells v) (by omega) g2
  rw [g1] at this
  exact this

/-- A variable that nobody writes any more. -/
theorem opBoxI {t : Nat} {x : Operand} {v : AV} (ho : o.op = .box t x) (hx : ev e x = v) (hv : v.told = true) (h : K (.rptr (cells v)) H) : Heavy P o e H K := by
  intro e' he B ι a w n hr hE next Q hk
  have h1 := hE.ev x
  rw [he x (by simp [ho, Op.operands]), hx] at h1
  obtain ⟨g1, g2⟩ := h1.cells hv
  unfold Oper.wp
  have : (execOp a.eval o).run P w = .ok (.value (.pointer (some ⟨w.heap.size, 0, none⟩))) (w.alloc (.cells (a.eval x).cells t)) := by
    simp [execOp, ho, Instr.box, newVar, newRow]
  rw [this]
  obtain ⟨k1, k2⟩ := hr.allocI (a.eval x).cells t
  refine hk _ _ _ _ _ h ?_ k2 k1
  refine .rptr (fun p => (a.eval x).cells.getD p Go.undef) (fun p hp => ?_) (fun p hp => (g2 p hp).mono k2)
  have hp' : p < (a.eval x).cells.size := by omega
  simp [Imm.new, hp']

theorem opAlloc {t : Nat} {z : Value} (ho : o.op = .alloc t) (hz : zeroA P t = some z) (h : ∀ b, H b = none → K (.ptr b 0) (H.set b ⟨0, cells (avOf z), (cells (avOf z)).length, none⟩)) : Heavy P o e H K := by
  intro e' he B ι a w n hr hE next Q hk
  unfold Oper.wp
  have : (execOp a.eval o).run P w = .ok (.value (.pointer (some ⟨w.heap.size, 0, none⟩))) (w.alloc (.cells z.cells t)) := by
    simp [execOp, ho, Instr.alloc, newVar, newRow, run_zero hz]
  rw [this]
  refine hk _ _ _ ι _ (h w.heap.size hr.fresh) (.ptr _ _) (Imm.le_refl _) ?_
  have := hr.alloc z.cells t (cells (avOf z)) (by rw [avOf_size]; omega) (avOf_cells ι z)
  rw [avOf_size] at this
  exact this

theorem run_store1 {B : Base} {ι : Imm} {w : World} (hr : Rel B ι H w) {b : Nat} {x : Blk} (hb : H b = some x) {p : Nat} {v : AV} {u : Value} (hv : V ι v u) (h1 : v.one = true) (hp : x.lo + p < x.hi) :
    (store ⟨b, x.lo + p, none⟩ u).run P w = .ok () (w.setCell ⟨b, x.lo + p, none⟩ u) := by
  obtain ⟨⟨u0, hu0⟩, hf, hi⟩ := hr.room b x hb (x.lo + p) (by omega) hp
  rw [run_store P w _ u _ (hv.one h1), hu0]
  simp [hf]

theorem run_storeCells {B : Base} {ι : Imm} {b : Nat} : ∀ (us : List Value) (vs : List AV) (H : Heap) (w : World) (x : Blk) (i p : Nat), Rel B ι H w → H b = some x → us.length = vs.length →
    (∀ q (h : q < vs.length) (h' : q < us.length), V ι (vs[q]) (us[q]) ∧ (vs[q]).one = true) → p + i + vs.length ≤ x.cs.length →
    ∃ w', (storeCells ⟨b, x.lo + p, none⟩ us i).run P w = .ok () w' ∧ Rel B ι (H.set b ⟨x.lo, setAll x.cs (p + i) vs, x.hi, x.ob⟩) w'
  | [], vs, H, w, x, i, p, hr, hb, hl, hv, hs => by
    cases vs with
    | nil =>
      refine ⟨w, rfl, ?_⟩
      have : H.set b ⟨x.lo, setAll x.cs (p + i) [], x.hi, x.ob⟩ = H := by
        funext c; unfold Heap.set; split
        · rename_i h; subst h; rw [hb]; rfl
        · rfl
      rw [this]; exact hr
    | cons v r => simp at hl
  | u :: us, vs, H, w, x, i, p, hr, hb, hl, hv, hs => by
    cases vs with
    | nil => simp at hl
    | cons v vs =>
      have h0 := hv 0 (by simp) (by simp)
      simp only [List.getElem_cons_zero] at h0
      have hlo := (hr.lo b x hb).2.2
      simp only [List.length_cons] at hs hl
      have hst := run_store1 (P := P) hr hb h0.1 h0.2 (p := p + i) (by omega)
      have hr' := hr.store hb h0.1 (p := p + i) (x.cs.set (p + i) v) (by omega) (by simp; omega) (fun q h => by
        by_cases hq : q = p + i
        · subst hq; exact .inl ⟨rfl, by simp⟩
        · exact .inr ⟨hq, by simpa using h, by rw [List.getElem_set_ne (by omega)]⟩)
      obtain ⟨w', g1, g2⟩ := run_storeCells us vs _ _ ⟨x.lo, x.cs.set (p + i) v, x.hi, x.ob⟩ (i + 1) p hr' (Heap.set_same _ _ _) (by omega)
        (fun q h h' => by have := hv (q + 1) (by simp; omega) (by simp; omega); simpa using this) (by simp; omega)
      refine ⟨w', ?_, ?_⟩
      · simp only [storeCells, Sem.run_bind]
        rw [Addr_add, Nat.add_assoc, hst]
        simpa using g1
      · rw [Heap.set_set] at g2
        simp only [setAll]
        rw [show p + i + 1 = p + (i + 1) by omega]
        exact g2

theorem opStore {t b q p s : Nat} {x y : Operand} {blk : Blk} {v : AV} (ho : o.op = .store t x y) (hs : sizeA P t = some s) (hx : ev e x = .ptr b q) (hy : ev e y = v) (hH : H b = some blk) (hq : q = blk.lo + p)
    (hv : v.told = true) (hl : (cells v).length = s) (h1 : (cells v).all AV.one = true) (hp : p + s ≤ blk.cs.length) (h : K .undef (H.set b ⟨blk.lo, setAll blk.cs p (cells v), blk.hi, blk.ob⟩)) : Heavy P o e H K := by
  intro e' he B ι a w n hr hE next Q hk
  have g1 := hE.ev x
  have g2 := hE.ev y
  rw [he x (by simp [ho, Op.operands]), hx] at g1
  rw [he y (by simp [ho, Op.operands]), hy] at g2
  obtain ⟨c1, c2⟩ := g2.cells hv
  obtain ⟨w', r1, r2⟩ := run_storeCells (P := P) (a.eval y).cells.toList (cells v) H w blk 0 p hr hH (by simp [c1])
    (fun j h h' => ⟨by have := c2 j h; rw [getD_lt _ _ (by simpa using h')] at this; simpa using this, List.all_eq_true.mp h1 _ (List.getElem_mem h)⟩) (by omega)
  unfold Oper.wp
  have : (execOp a.eval o).run P w = .ok .skip w' := by
    simp only [execOp, ho, g1.ptr_inv, Instr.storeAt, Instr.sureAddr, storeVar]
    rw [hq]
    simp [run_sizeOf hs, c1, hl, r1]
  rw [this]
  exact hk .undef Go.undef w' ι _ h (.undef _) (Imm.le_refl _) r2

theorem opStore1 {t b q p : Nat} {x y : Operand} {blk : Blk} {v : AV} (ho : o.op = .store t x y) (hs : sizeA P t = some 1) (hx : ev e x = .ptr b q) (hy : ev e y = v) (hH : H b = some blk) (hq : q = blk.lo + p)
    (h1 : v.one = true) (hp : p < blk.cs.length) (h : K .undef (H.set b ⟨blk.lo, blk.cs.set p v, blk.hi, blk.ob⟩)) : Heavy P o e H K := by
  have hc : cells v = [v] := by cases v <;> first | rfl | simp [AV.one] at h1
  refine opStore ho hs hx hy hH hq (by cases v <;> first | rfl | simp [AV.one] at h1) (by rw [hc]; rfl) (by rw [hc]; simp [h1]) (by omega) ?_
  rw [hc]; exact h

end

/-- The arguments of a call stand for values. -/
def Vs (ι : Imm) (as : List AV) (vs : Array Value) : Prop := vs.size = as.length ∧ ∀ p (h : p < as.length), V ι (as[p]) (vs.getD p Go.undef)

/-- A contract: what a call does. -/
def HC (P : Program) (f : FuncId) (as : List AV) (H : Heap) (R : AV → Heap → Prop) : Prop :=
  ∀ (B : Base) (ι : Imm) (w : World) (vs : Array Value), Rel B ι H w → Vs ι as vs →
    Calls P f vs w fun x w' => ∃ v r κ G, x = .returned r ∧ R v G ∧ V κ v r ∧ ι.le κ ∧ Rel B κ G w'

/-- A contract of a call that leaves all memory that was there as it was. -/
def PC (P : Program) (f : FuncId) (as : List AV) (R : AV → Prop) : Prop :=
  ∀ (ι : Imm) (w : World) (vs : Array Value), (∀ b o v, ι b o = some v → w.cell? ⟨b, o, none⟩ = some v) → Vs ι as vs →
    Calls P f vs w fun x w' => ∃ v r κ, x = .returned r ∧ R v ∧ V κ v r ∧ ι.le κ ∧ (∀ b o v, κ b o = some v → w'.cell? ⟨b, o, none⟩ = some v) ∧ Bel w.heap.size w w' ∧
      (∀ b o, b < w.heap.size → κ b o = ι b o)

theorem HC.mono {P : Program} {f : FuncId} {as : List AV} {H : Heap} {R R' : AV → Heap → Prop} (h : HC P f as H R) (k : ∀ v G, R v G → R' v G) : HC P f as H R' :=
  fun B ι w vs hr hv => (h B ι w vs hr hv).mono fun x w' ⟨v, r, κ, G, h1, h2, h3⟩ => ⟨v, r, κ, G, h1, k _ _ h2, h3⟩
theorem PC.mono {P : Program} {f : FuncId} {as : List AV} {R R' : AV → Prop} (h : PC P f as R) (k : ∀ v, R v → R' v) : PC P f as R' :=
  fun ι w vs hr hv => (h ι w vs hr hv).mono fun x w' ⟨v, r, κ, h1, h2, h3⟩ => ⟨v, r, κ, h1, k _ h2, h3⟩

/-- Behind a call that leaves what was there all stands as it stood. -/
theorem Rel.behind {B : Base} {ι κ : Imm} {H : Heap} {w w' : World} (hr : Rel B ι H w) (hle : ι.le κ) (hk : ∀ b o v, κ b o = some v → w'.cell? ⟨b, o, none⟩ = some v) (hb : Bel w.heap.size w w')
    (hn : ∀ b o, b < w.heap.size → κ b o = ι b o) : Rel B κ H w' := by
  refine ⟨hr.below.trans (hb.mono hr.size), by have := hb.size; have := hr.size; omega, hk, fun b o h => by rw [hn b o (by have := hr.size; omega)]; exact hr.iold b o h, fun b x h => ?_, fun b x h p hp => ?_, fun b x h o h1 h2 => ?_, fun b x h q hq => ⟨(hr.obj b x h q hq).1, by rw [hb.block b (hr.lo b x h).2.1]; exact (hr.obj b x h q hq).2⟩⟩
  · obtain ⟨h1, h2, h3⟩ := hr.lo b x h
    exact ⟨h1, by have := hb.size; omega, h3⟩
  · obtain ⟨v, h1, h2⟩ := hr.cell b x h p hp
    exact ⟨v, by rw [hb.cell (p := ⟨b, x.lo + p, none⟩) (hr.lo b x h).2.1]; exact h1, h2.mono hle⟩
  · have hlt := (hr.lo b x h).2.1
    obtain ⟨⟨v, h3⟩, h4, h5⟩ := hr.room b x h o h1 h2
    exact ⟨⟨v, by rw [hb.cell (p := ⟨b, o, none⟩) hlt]; exact h3⟩, by rw [hb.frozen (p := ⟨b, o, none⟩) hlt]; exact h4, by rw [hn b o hlt]; exact h5⟩

theorem PC.hc {P : Program} {f : FuncId} {as : List AV} {R : AV → Prop} (h : PC P f as R) (H : Heap) : HC P f as H fun v G => R v ∧ G = H := by
  intro B ι w vs hr hv
  refine (h ι w vs hr.imm hv).mono ?_
  rintro x w' ⟨v, r, κ, h1, h2, h3, h4, h5, h6, h7⟩
  exact ⟨v, r, κ, H, h1, ⟨h2, rfl⟩, h3, h4, hr.behind h4 h5 h6 h7⟩

section
variable {P : Program} {o : Oper} {e : Env} {H : Heap} {K : AV → Heap → Prop}

theorem Vs.map {n : Nat} {ι : Imm} {a : Act} (hE : EnvR n ι e a) (as : Array Operand) : Vs ι (as.toList.map (ev e)) (as.map a.eval) := by
  refine ⟨by simp, fun p hp => ?_⟩
  have hp' : p < as.size := by simpa using hp
  rw [getD_lt _ _ (by simpa using hp')]
  simp only [List.getElem_map, Array.getElem_toList, Array.getElem_map]
  exact hE.ev _

theorem Vs.append {ι : Imm} {as bs : List AV} {us vs : Array Value} (h : Vs ι as us) (k : Vs ι bs vs) : Vs ι (as ++ bs) (us ++ vs) := by
  refine ⟨by simp [h.1, k.1], fun p hp => ?_⟩
  by_cases hp' : p < as.length
  · rw [List.getElem_append_left hp']
    have := h.2 p hp'
    have hs := h.1
    rw [getD_lt _ _ (by omega)] at this
    rw [getD_lt _ _ (by simp; omega), Array.getElem_append_left (by omega)]
    exact this
  · rw [List.getElem_append_right (by omega)]
    have hq : p - as.length < bs.length := by simp at hp; omega
    have := k.2 _ hq
    have hs := h.1
    have ks := k.1
    rw [getD_lt _ _ (by omega)] at this
    rw [getD_lt _ _ (by simp; omega), Array.getElem_append_right (by omega)]
    simp only [hs]
    exact this

theorem run_callFunc {f : FuncId} {fn : Func} {vs : Array Value} {w : World} (hfn : P.funcs[f]? = some fn) (hname : (fn.name == "runtime.NumGoroutine") = false) (hbody : fn.body.isNone = false) :
    (callFunc f vs).run P w = .ok (.enter f vs) w := by
  simp only [callFunc, Sem.run_bind, run_program, Result.andThen_ok, hfn, hname, hbody]
  rfl

/-- May a function be called by its number? -/
def callable (P : Program) (f : FuncId) : Bool := match P.funcs[f]? with
  | some fn => !(fn.name == "runtime.NumGoroutine") && !fn.body.isNone
  | none => false

theorem opCall {fo : Operand} {as : Array Operand} {ts : Array TypeId} {f : FuncId} {first caps : List AV} (ho : o.op = .call ⟨.value fo, as, ts⟩) (hf : ev e fo = .fn (.func f) first caps)
    (hc : callable P f = true) (h : HC P f (first ++ as.toList.map (ev e) ++ caps) H K) : Heavy P o e H K := by
  obtain ⟨fn, hfn, hname, hbody⟩ : ∃ fn, P.funcs[f]? = some fn ∧ (fn.name == "runtime.NumGoroutine") = false ∧ fn.body.isNone = false := by
    unfold callable at hc
    split at hc
    · rename_i fn hfn
      simp only [Bool.and_eq_true, Bool.not_eq_true'] at hc
      exact ⟨fn, hfn, hc.1, hc.2⟩
    · simp at hc
  intro e' he B ι a w n hr hE next Q hk
  have hmap : as.toList.map (ev e') = as.toList.map (ev e) := by
    apply List.map_congr_left
    intro x hx
    exact he x (by simp [ho, Op.operands, Call.operands, Array.mem_toList_iff.mp hx])
  have g1 := hE.ev fo
  rw [he fo (by simp [ho, Op.operands, Call.operands]), hf] at g1
  obtain ⟨cs, ds, hv, hl, hm, v1, v2⟩ := g1.fn_inv
  have hargs : Vs ι (first ++ as.toList.map (ev e) ++ caps) (cs ++ as.map a.eval ++ ds) := by
    rw [← hmap]
    exact Vs.append (Vs.append ⟨hl, v1⟩ (Vs.map hE as)) ⟨hm, v2⟩
  unfold Oper.wp
  have : (execOp a.eval o).run P w = .ok (.enter f (cs ++ as.map a.eval ++ ds)) w := by
    simp only [execOp, ho, resolve, hv, Deferred.ofValue, pure_bind, invoke]
    exact run_callFunc hfn hname hbody
  rw [this, Oper.upon_enter]
  refine (h B ι w _ hr hargs).mono ?_
  rintro x w' ⟨v, r, κ, G, rfl, h2, h3, h4, h5⟩
  exact hk v r w' κ G h2 h3 h4 h5

end

/-- What a function hands back. -/
def resOne (P : Program) (rv : ResultVar) (e : Env) (H : Heap) (v : AV) : Prop :=
  match rv with
  | .tmp t => v = e t
  | .cell a t => (∃ xs, e a = .rptr xs ∧ ((aggA P t = some false ∧ xs[0]? = some v) ∨ ∃ s, aggA P t = some true ∧ sizeA P t = some s ∧ s ≤ xs.length ∧ v = .agg (xs.take s))) ∨
      ∃ b q p blk, e a = .ptr b q ∧ H b = some blk ∧ q = blk.lo + p ∧
        ((aggA P t = some false ∧ blk.cs[p]? = some v) ∨ ∃ s, aggA P t = some true ∧ sizeA P t = some s ∧ p + s ≤ blk.cs.length ∧ v = .agg ((blk.cs.drop p).take s))

def resAll (P : Program) (e : Env) (H : Heap) : List ResultVar → List AV → Prop
  | [], [] => True
  | r :: rs, v :: vs => resOne P r e H v ∧ resAll P e H rs vs
  | _, _ => False
def resV (P : Program) (rs : Array ResultVar) (e : Env) (H : Heap) (v : AV) : Prop :=
  ∃ vs, resAll P e H rs.toList vs ∧ ((∃ x, vs = [x] ∧ v = x) ∨ (vs.length ≠ 1 ∧ v = .tup vs))

def resRun (tmps : Array Value) (rv : ResultVar) : Sem Value :=
  match rv with
  | .tmp t => pure (tmps.getD t Go.undef)
  | .cell x t => do loadVar t (← asAddr (tmps.getD x Go.undef))

theorem run_resOne {P : Program} {B : Base} {ι : Imm} {H : Heap} {w : World} {n : Nat} {e : Env} {a : Act} (hr : Rel B ι H w) (hE : EnvR n ι e a) {rv : ResultVar} {v : AV} (h : resOne P rv e H v) :
    ∃ r, (resRun a.tmps rv).run P w = .ok r w ∧ V ι v r := by
  cases rv with
  | tmp t => exact ⟨_, rfl, by rw [show v = e t from h]; exact hE.val t⟩
  | cell x t =>
    have hx := hE.val x
    rcases h with ⟨xs, h1, h2⟩ | ⟨b, q, p, blk, h1, hH, hq, h2⟩
    · rw [h1] at hx
      obtain ⟨b, q, vs, g, g1, g2⟩ := hx.rptr_inv
      rcases h2 with ⟨ht, hv⟩ | ⟨s, ht, hs, hl, rfl⟩
      · obtain ⟨hl, hq⟩ := List.getElem?_eq_some_iff.mp hv
        have h0 : w.cell? ⟨b, q, none⟩ = some (vs 0) := hr.imm _ _ _ (g1 0 hl)
        have := run_load1 (P := P) ht h0
        simp only [Instr.loadAt, Instr.sureAddr] at this
        refine ⟨vs 0, ?_, by rw [← hq]; exact g2 0 hl⟩
        simp only [resRun, g, asAddr, pure_bind]
        simpa using this
      · obtain ⟨cs, r1, r2, r3⟩ := run_loadA (P := P) (w := w) vs ht hs (fun p hp => hr.imm _ _ _ (g1 p (by omega)))
        simp only [Instr.loadAt, Instr.sureAddr] at r1
        refine ⟨.agg cs, by simp only [resRun, g, asAddr, pure_bind]; simpa using r1, ?_⟩
        refine .agg cs (by simp; omega) fun p hp => ?_
        have hp' : p < s := by simp at hp; omega
        rw [r3 p hp', List.getElem_take]
        exact g2 p (by omega)
    · rw [h1] at hx
      have hc := hr.cell b blk hH
      rcases h2 with ⟨ht, hv⟩ | ⟨s, ht, hs, hl, rfl⟩
      · obtain ⟨hl, hq'⟩ := List.getElem?_eq_some_iff.mp hv
        obtain ⟨u, g1, g2⟩ := hc p hl
        rw [← hq] at g1
        have := run_load1 (P := P) ht g1
        simp only [Instr.loadAt, Instr.sureAddr] at this
        refine ⟨u, by simp only [resRun, hx.ptr_inv, asAddr, pure_bind]; simpa using this, by rw [← hq']; exact g2⟩
      · obtain ⟨cs, r1, r2, r3⟩ := run_loadA (P := P) (w := w) (b := b) (q := q) (s := s) (fun j => (w.cell? ⟨b, blk.lo + (p + j), none⟩).getD Go.undef) ht hs (fun j hj => by
          obtain ⟨u, g1, _⟩ := hc (p + j) (by omega)
          rw [hq, Nat.add_assoc, g1]; rfl)
        simp only [Instr.loadAt, Instr.sureAddr] at r1
        refine ⟨.agg cs, by simp only [resRun, hx.ptr_inv, asAddr, pure_bind]; simpa using r1, ?_⟩
        refine .agg cs (by simp; omega) fun j hj => ?_
        have hj' : j < s := by simp at hj; omega
        obtain ⟨u, g1, g2⟩ := hc (p + j) (by omega)
        rw [r3 j hj', g1]
        simp only [List.getElem_take, List.getElem_drop, Option.getD_some]
        exact g2

theorem run_resAll {P : Program} {B : Base} {ι : Imm} {H : Heap} {w : World} {n : Nat} {e : Env} {a : Act} (hr : Rel B ι H w) (hE : EnvR n ι e a) : ∀ (rs : List ResultVar) (vs : List AV), resAll P e H rs vs →
    ∃ us : List Value, (rs.mapM (resRun a.tmps)).run P w = .ok us w ∧ us.length = vs.length ∧
      ∀ p (h : p < vs.length) (h' : p < us.length), V ι (vs[p]) (us[p])
  | [], [], _ => ⟨[], rfl, rfl, fun p h => by simp at h⟩
  | [], _ :: _, h => by simp [resAll] at h
  | _ :: _, [], h => by simp [resAll] at h
  | r :: rs, v :: vs, h => by
    obtain ⟨u, h1, h2⟩ := run_resOne hr hE h.1
    obtain ⟨us, g1, g2, g3⟩ := run_resAll hr hE rs vs h.2
    refine ⟨u :: us, ?_, by simp [g2], fun p hp hp' => ?_⟩
    · rw [List.mapM_cons, Sem.run_bind, h1, Result.andThen_ok, Sem.run_bind, g1]; rfl
    · cases p with
      | zero => exact h2
      | succ p => exact g3 p (by simpa using hp) (by simpa using hp')

theorem run_results {P : Program} {B : Base} {ι : Imm} {H : Heap} {w : World} {n : Nat} {e : Env} {a : Act} (hr : Rel B ι H w) (hE : EnvR n ι e a) {fn : Func} {v : AV} (h : resV P fn.results e H v) :
    ∃ r, (results fn a.tmps).run P w = .ok r w ∧ V ι v r := by
  obtain ⟨vs, h1, h2⟩ := h
  obtain ⟨us, g1, g2, g3⟩ := run_resAll hr hE _ _ h1
  have hm : (fn.results.mapM (resRun a.tmps)).run P w = .ok us.toArray w := by
    rw [← Array.toArray_toList (xs := fn.results), List.mapM_toArray]
    simp only [Sem.run_map, g1, Result.andThen_ok]
  have hres : ∀ r, (if h : us.toArray.size = 1 then us.toArray[0] else Value.tuple us.toArray) = r → (results fn a.tmps).run P w = .ok r w := by
    intro r hr'
    rw [← hr']
    show (fn.results.mapM (resRun a.tmps) >>= fun vs => (pure (if h : vs.size = 1 then vs[0] else Value.tuple vs) : Sem Value)).run P w = _
    rw [Sem.run_bind, hm, Result.andThen_ok]
    rfl
  rcases h2 with ⟨x, rfl, rfl⟩ | ⟨hn, rfl⟩
  · have hl : us.length = 1 := by simpa using g2
    obtain ⟨u, rfl⟩ : ∃ u, us = [u] := by
      cases us with
      | nil => simp at hl
      | cons u r => cases r with
        | nil => exact ⟨u, rfl⟩
        | cons _ _ => simp at hl
    exact ⟨u, hres u (by simp), g3 0 (by simp) (by simp)⟩
  · refine ⟨.tuple us.toArray, hres _ (by rw [dif_neg]; simp; omega), ?_⟩
    refine .tup _ (by simp [g2]) fun p hp => ?_
    rw [getD_lt _ _ (by simp; omega)]
    exact g3 p hp (by omega)

def argEnv (as : List AV) : Env := fun t => as.getD t .undef
def QRet (P : Program) (rs : Array ResultVar) (R : AV → Heap → Prop) : Exit → Env → Heap → Prop
  | .normal, e, H => ∃ v, resV P rs e H v ∧ R v H
  | .ret, e, H => ∃ v, resV P rs e H v ∧ R v H
  | _, _, _ => False

theorem argEnvR {ι : Imm} {as : List AV} {vs : Array Value} {n : Nat} (hv : Vs ι as vs) (hn : as.length ≤ n) : EnvR n ι (argEnv as) { tmps := vs ++ Array.replicate (n - vs.size) Go.undef, defers := [] } := by
  have hs := hv.1
  refine ⟨by simp; omega, rfl, fun t => ?_⟩
  unfold argEnv
  by_cases ht : t < as.length
  · have := hv.2 t ht
    rw [getD_lt _ _ (by omega)] at this
    rw [List.getD_eq_getElem?_getD, List.getElem?_eq_getElem ht, getD_lt _ _ (by simp; omega), Array.getElem_append_left (by omega)]
    exact this
  · rw [List.getD_eq_getElem?_getD, List.getElem?_eq_none (by omega)]
    exact .undef _

theorem HC.enter {P : Program} {f : FuncId} {fn : Func} {c : Code} {n : Nat} {as : List AV} {H : Heap} {R : AV → Heap → Prop} (hf : P.funcs[f]? = some fn) (hb : fn.body = some c) (hn : fn.ntmps = n) (hl : as.length ≤ n)
    (h : AWP P n c (QRet P fn.results R) (argEnv as) H) : HC P f as H R := by
  intro B ι w vs hr hv
  have hE : EnvR n ι (argEnv as) { tmps := vs ++ Array.replicate (fn.ntmps - vs.size) Go.undef, defers := [] } := by rw [hn]; exact argEnvR hv hl
  refine calls_of_wp hf hb (wp_mono (h B ι _ w hr hE) ?_)
  rintro x a' w' ⟨κ, e', G, hle, hr', hE', hq⟩
  cases x with
  | normal =>
    obtain ⟨v, hv, hR⟩ := hq
    obtain ⟨r, h1, h2⟩ := run_results hr' hE' hv
    exact ⟨hE'.defers, r, h1, v, r, κ, G, rfl, hR, h2, hle, hr'⟩
  | ret =>
    obtain ⟨v, hv, hR⟩ := hq
    obtain ⟨r, h1, h2⟩ := run_results hr' hE' hv
    exact ⟨hE'.defers, r, h1, v, r, κ, G, rfl, hR, h2, hle, hr'⟩
  | exit id => exact hq.elim
  | goto l => exact hq.elim
  | panic ch => exact hq.elim
  | outgrown => exact hq.elim

/-- A contract with memory of its own alone, from the contract with no heap. -/
theorem PC.of {P : Program} {f : FuncId} {as : List AV} {R : AV → Prop} (h : HC P f as (fun _ => none) fun v _ => R v) : PC P f as R := by
  intro ι w vs hi hv
  have hr : Rel ⟨w.heap.size, w, ι⟩ ι (fun _ => none) w :=
    ⟨Bel.refl _ _, Nat.le_refl _, hi, fun _ _ _ => rfl, fun b x h => by simp at h, fun b x h => by simp at h, fun b x h => by simp at h, fun b x h => by simp at h⟩
  refine (h _ ι w vs hr hv).mono ?_
  rintro x w' ⟨v, r, κ, G, h1, h2, h3, h4, h5⟩
  exact ⟨v, r, κ, h1, h2, h3, h4, h5.imm, h5.below, fun b o hb => h5.iold b o hb⟩
theorem PC.enter {P : Program} {f : FuncId} {fn : Func} {c : Code} {n : Nat} {as : List AV} {R : AV → Prop} (hf : P.funcs[f]? = some fn) (hb : fn.body = some c) (hn : fn.ntmps = n) (hl : as.length ≤ n)
    (h : AWP P n c (QRet P fn.results fun v _ => R v) (argEnv as) (fun _ => none)) : PC P f as R := PC.of (HC.enter hf hb hn hl h)

end Go.Proofs.Ythdoebgikbfndaa.E
