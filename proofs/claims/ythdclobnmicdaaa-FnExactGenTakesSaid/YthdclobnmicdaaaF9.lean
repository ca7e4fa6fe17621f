/- Maps of the call's own: made, asked, written. -/
import Derived.Test.YthdclobnmicdaaaF8
import Derived.Maps.Own
import Derived.Maps.Range
import Derived.Maps.Keyed
namespace Go.Proofs.Ythdclobnmicdaaa.E
open Go Go.RowKit Go.Maps Go.ChangeMaps Go.MapKept
open Go.WideElems (Fit rd rg)
set_option linter.unusedVariables false

/-- What a block holds that is a map of numbers by numbers. -/
def mapQ (P : Program) (k e : TypeId) (n : Nat) (D : DataW Unit) : Option Obj → Prop := fun o => ∃ es clock, o = some (.map es clock) ∧ Fit (H := Unit) P k (plainElem P e) es clock ∧ es.size ≤ n ∧ D = .map ((es.toList.map (rg P k (plainElem P e))).foldr DataW.insert [])
def mapB (P : Program) (k e : TypeId) (n : Nat) (D : DataW Unit) : Blk := ⟨0, [], 0, some (mapQ P k e n D)⟩
theorem Rel.owns {B : Base} {ι : Imm} {H : Heap} {w : World} (hr : Rel B ι H w) {P : Program} {k e : TypeId} {b n : Nat} {D : DataW Unit} (h : H b = some (mapB P k e n D)) : w.ownsMap P k (plainElem P e) b n D := (hr.obj b _ h _ rfl).2
theorem Rel.allocO {B : Base} {ι : Imm} {H : Heap} {w : World} (hr : Rel B ι H w) (o : Obj) {q : Option Obj → Prop} (hq : q (some o)) : Rel B ι (H.set w.heap.size ⟨0, [], 0, some q⟩) (w.alloc o) := by
  have old : ∀ {b : Nat}, b < w.heap.size → (w.alloc o).heap[b]? = w.heap[b]? := fun hb => Below.heap_alloc w o _ hb
  refine ⟨hr.below.alloc hr.size _, by simp; have := hr.size; omega, fun b o' v h => ?_, hr.iold, fun b x h => ?_, fun b x h p hp => ?_, fun b x h o' h1 h2 => ?_, fun b x h q' hq' => ?_⟩
  · have := hr.imm _ _ _ h
    rw [World.cell?_of_block (w := w) (old (blt this))]; exact this
  · by_cases hb : b = w.heap.size
    · subst hb; rw [Heap.set_same] at h; cases h
      exact ⟨hr.size, by simp, Nat.le_refl _⟩
    · rw [Heap.set_ne _ _ hb] at h
      obtain ⟨h1, h2, h3⟩ := hr.lo b x h
      exact ⟨h1, by simp; omega, h3⟩
  · by_cases hb : b = w.heap.size
    · subst hb; rw [Heap.set_same] at h; cases h
      exact absurd hp (by simp)
    · rw [Heap.set_ne _ _ hb] at h
      obtain ⟨v, h1, h2⟩ := hr.cell b x h p hp
      exact ⟨v, by rw [World.cell?_of_block (w := w) (old (hr.lo b x h).2.1)]; exact h1, h2⟩
  · by_cases hb : b = w.heap.size
    · subst hb; rw [Heap.set_same] at h; cases h
      exact absurd h2 (by simp)
    · rw [Heap.set_ne _ _ hb] at h
      obtain ⟨⟨v, g1⟩, g2, g3⟩ := hr.room b x h o' h1 h2
      have hlt := (hr.lo b x h).2.1
      exact ⟨⟨v, by rw [World.cell?_of_block (w := w) (old hlt)]; exact g1⟩, by rw [World.frozen?_of_block (w := w) (old hlt)]; exact g2, g3⟩
  · by_cases hb : b = w.heap.size
    · subst hb; rw [Heap.set_same] at h; cases h; cases hq'
      refine ⟨rfl, ?_⟩
      rw [(MapKept.heap_alloc w o).1]; exact hq
    · rw [Heap.set_ne _ _ hb] at h
      obtain ⟨h1, h2⟩ := hr.obj b x h q' hq'
      exact ⟨h1, by rw [old (hr.lo b x h).2.1]; exact h2⟩
/-- A block that is no cells is written. -/
theorem Rel.grownO {B : Base} {ι : Imm} {H : Heap} {w w' : World} (hr : Rel B ι H w) {b : Nat} {x : Blk} (hb : H b = some x) (hno : ∀ o, w.cell? ⟨b, o, none⟩ = none) (hg : w.grownBy w' (some b)) {q : Option Obj → Prop} (hq : q (w'.heap[b]?)) : Rel B ι (H.set b ⟨0, [], 0, some q⟩) w' := by
  have hlb := hr.lo b x hb
  have old : ∀ {c : Nat}, c < w.heap.size → c ≠ b → w'.heap[c]? = w.heap[c]? := fun hc hne => hg.block _ hc (fun k => hne (Option.some.inj k))
  refine ⟨hr.below.grown hg hr.size (fun k hk => by cases hk; exact hlb.1), by have := hg.size; have := hr.size; omega, fun c o v h => ?_, hr.iold, fun c y h => ?_, fun c y h p hp => ?_, fun c y h o h1 h2 => ?_, fun c y h q' hq' => ?_⟩
  · have := hr.imm _ _ _ h
    by_cases hc : c = b
    · subst hc; rw [hno o] at this; cases this
    · rw [World.cell?_of_block (w := w) (old (blt this) hc)]; exact this
  · by_cases hc : c = b
    · subst hc; rw [Heap.set_same] at h; cases h
      exact ⟨hlb.1, by have := hg.size; omega, Nat.le_refl _⟩
    · rw [Heap.set_ne _ _ hc] at h
      obtain ⟨h1, h2, h3⟩ := hr.lo c y h
      exact ⟨h1, by have := hg.size; omega, h3⟩
  · by_cases hc : c = b
    · subst hc; rw [Heap.set_same] at h; cases h
      exact absurd hp (by simp)
    · rw [Heap.set_ne _ _ hc] at h
      obtain ⟨v, h1, h2⟩ := hr.cell c y h p hp
      exact ⟨v, by rw [World.cell?_of_block (w := w) (old (hr.lo c y h).2.1 hc)]; exact h1, h2⟩
  · by_cases hc : c = b
    · subst hc; rw [Heap.set_same] at h; cases h
      exact absurd h2 (by simp)
    · rw [Heap.set_ne _ _ hc] at h
      obtain ⟨⟨v, g1⟩, g2, g3⟩ := hr.room c y h o h1 h2
      have hlt := (hr.lo c y h).2.1
      exact ⟨⟨v, by rw [World.cell?_of_block (w := w) (old hlt hc)]; exact g1⟩, by rw [World.frozen?_of_block (w := w) (old hlt hc)]; exact g2, g3⟩
  · by_cases hc : c = b
    · subst hc; rw [Heap.set_same] at h; cases h; cases hq'
      exact ⟨rfl, hq⟩
    · rw [Heap.set_ne _ _ hc] at h
      obtain ⟨h1, h2⟩ := hr.obj c y h q' hq'
      exact ⟨h1, by rw [old (hr.lo c y h).2.1 hc]; exact h2⟩
theorem owns_nocell {w : World} {P : Program} {k e : TypeId} {b n : Nat} {D : DataW Unit} (h : w.ownsMap P k (plainElem P e) b n D) (o : Nat) : w.cell? ⟨b, o, none⟩ = none := by
  obtain ⟨es, clock, hb, _⟩ := h
  simp [World.cell?, hb]
section
variable {P : Program} {o : Oper} {e : Env} {H : Heap} {K : AV → Heap → Prop}
theorem V.mapp_inv {ι : Imm} {r : Nat} {v : Value} (h : V ι (.mapp r) v) : v = .map (some r) := by cases h; rfl
theorem opMakeMap {t kt et : TypeId} (ho : o.op = .makeMap t none) (h : ∀ r, H r = none → K (.mapp r) (H.set r (mapB P kt et 0 (.map [])))) : Heavy P o e H K := by
  intro e' he B ι a w n hr hE next Q hk
  unfold Oper.wp
  have : (execOp a.eval o).run P w = .ok (.value (.map (some w.heap.size))) (w.alloc (.map #[] 0)) := by
    simp [execOp, ho, run_makeMap]
  rw [this]
  refine hk _ _ _ ι _ (h w.heap.size hr.fresh) (.mapp _) (Imm.le_refl _) ?_
  refine hr.allocO (.map #[] 0) ?_
  have := World.ownsMap_made w P kt (plainElem (H := Unit) P et)
  obtain ⟨es, clock, h1, h2⟩ := this
  rw [(MapKept.heap_alloc w _).1] at h1
  exact ⟨es, clock, h1, h2⟩
/-- What a map of numbers says at a key. -/
def numAt (D : DataW Unit) (key : Int) : Int := match D.atKey (.int .i64 key) (.lit (.int .i64 0)) with
  | .lit (.int _ c) => c
  | _ => 0
theorem V.int_inv' {ι : Imm} {k : IntKind} {n : Int} {v : Value} (h : V ι (.int k n) v) : v = .int k n := by cases h; rfl
theorem opLookupM {t kt et : TypeId} {x y : Operand} {r n : Nat} {key : Int} {D : DataW Unit} (ho : o.op = .lookup t x y false) (ht : P.underlying t = some (.map kt et)) (hkt : P.underlying kt = some (.int .i64)) (het : P.underlying et = some (.int .i64))
    (hz : ∀ w, (zeroValue et).run P w = .ok (.int .i64 0) w) (hx : ev e x = .mapp r) (hy : ev e y = .int .i64 key) (hw : (Lit.int .i64 key).wf = true) (hr : H r = some (mapB P kt et n D)) : Light P o e H (.int .i64 (numAt D key)) [r] := by
  intro e' H' he hD B ι a w m hrel hE next Q hk
  have h1 := hE.ev x
  have h2 := hE.ev y
  rw [he x (by simp [ho, Op.operands]), hx] at h1
  rw [he y (by simp [ho, Op.operands]), hy] at h2
  have h1 := h1.mapp_inv
  have h2 := h2.int_inv'
  have hown := hrel.owns (b := r) (by rw [hD r (by simp)]; exact hr)
  obtain ⟨c, hrun, hat, _⟩ := hown.lookup_int (int_keyed hkt) ht het (hz w) (key := .int .i64 key) (keyOf_int_mk hkt hw)
  have hc : numAt D key = c := by unfold numAt; rw [hat]
  unfold Oper.wp
  have : (execOp a.eval o).run P w = .ok (.value (.int .i64 c)) w := by
    simp [execOp, ho, h1, h2, hrun, Result.andThen]
  rw [this]
  exact hk _ _ w ι H' ⟨rfl, rfl⟩ (by rw [hc]; exact .int _ _) (Imm.le_refl _) hrel
theorem opMapUpdateM {t kt et : TypeId} {x y z : Operand} {r n : Nat} {key val : Int} {D : DataW Unit} (ho : o.op = .mapUpdate t x y z) (ht : P.underlying t = some (.map kt et)) (hkt : P.underlying kt = some (.int .i64)) (het : P.underlying et = some (.int .i64))
    (hx : ev e x = .mapp r) (hy : ev e y = .int .i64 key) (hzv : ev e z = .int .i64 val) (hw : (Lit.int .i64 key).wf = true) (hv : (Lit.int .i64 val).wf = true) (hn : n < maxLen) (hr : H r = some (mapB P kt et n D))
    (h : K .undef (H.set r (mapB P kt et (n + 1) (D.put (.int .i64 key) (.lit (.int .i64 val)))))) : Heavy P o e H K := by
  intro e' he B ι a w m hrel hE next Q hk
  have h1 := hE.ev x
  have h2 := hE.ev y
  have h3 := hE.ev z
  rw [he x (by simp [ho, Op.operands]), hx] at h1
  rw [he y (by simp [ho, Op.operands]), hy] at h2
  rw [he z (by simp [ho, Op.operands]), hzv] at h3
  have h1 := h1.mapp_inv
  have h2 := h2.int_inv'
  have h3 := h3.int_inv'
  have hown := hrel.owns (b := r) hr
  obtain ⟨w', hrun, hown', hg⟩ := hown.update (int_keyed hkt) ht hn (key := .int .i64 key) (val := .int .i64 val) (keyOf_int_mk hkt hw) (plainElem_int het hv)
  unfold Oper.wp
  have : (execOp a.eval o).run P w = .ok .skip w' := by
    simp [execOp, ho, h1, h2, h3, hrun, Result.andThen]
  rw [this]
  exact hk .undef Go.undef w' ι _ h (.undef _) (Imm.le_refl _) (hrel.grownO hr (owns_nocell hown) hg hown')
/-- A block of which all is known. -/
def exB (x : Obj) : Blk := ⟨0, [], 0, some (fun o => o = some x)⟩
/-- A walk through a map under way, told of the two blocks by themselves. -/
def RgF (P : Program) (k e : TypeId) (b n : Nat) (D : DataW Unit) (left : Lit → Bool) (cnt : Nat) (es : Array MapEntry) (clock since : Nat) (seen : Array Nat) (c0 : Nat) : Prop :=
  Fit (H := Unit) P k (plainElem P e) es clock ∧ es.size ≤ n ∧ D = .map ((es.toList.map (rg P k (plainElem P e))).foldr DataW.insert []) ∧ (∀ x ∈ es.toList, x.born < since) ∧ (leftOf es seen).size = cnt ∧
    (∀ x ∈ es.toList, left (rg (H := Unit) P k (plainElem P e) x).1 = !seen.contains x.born) ∧ (∀ kl, left kl = true → ∃ x ∈ es.toList, (rg (H := Unit) P k (plainElem P e) x).1 = kl) ∧ since ≤ c0 ∧ since ≤ clock
theorem Rel.exact {B : Base} {ι : Imm} {H : Heap} {w : World} (hr : Rel B ι H w) {b : Nat} {x : Obj} (h : H b = some (exB x)) : w.heap[b]? = some x := (hr.obj b _ h _ rfl).2
theorem opRangeM {t kt et : TypeId} {x : Operand} {b n : Nat} {D : DataW Unit} (ho : o.op = .range t x) (ht : P.underlying t = some (.map kt et)) (hkt : P.underlying kt = some (.int .i64)) (hx : ev e x = .mapp b) (hb : H b = some (mapB P kt et n D))
    (h : ∀ r es clock since seen c0, H r = none → RgF P kt et b n D (Maps.has D) (Maps.size D) es clock since seen c0 → K (.ptr r 0) ((H.set b (exB (.map es clock))).set r (exB (.mapIter (some b) since seen c0)))) : Heavy P o e H K := by
  intro e' he B ι a w m hr hE next Q hk
  have h1 := hE.ev x
  rw [he x (by simp [ho, Op.operands]), hx] at h1
  have h1 := h1.mapp_inv
  have hown := hr.owns (b := b) hb
  obtain ⟨w', hrun, hrg, hg, hsz⟩ := hown.range (int_keyed hkt) ht
  unfold Oper.wp
  have : (execOp a.eval o).run P w = .ok (.value (.pointer (some ⟨w.heap.size, 0, none⟩))) w' := by
    simp [execOp, ho, h1, hrun, Result.andThen]
  rw [this]
  obtain ⟨es, clock, since, seen, c0, k1, k2, k3, k4, k5, k6⟩ := hrg
  have hlt := hown.lt
  have hfr := hr.fresh
  have hb1 : w.heap[b]? = some (.map es clock) := by rw [← hg.block b hlt (by simp)]; exact k1
  refine hk (.ptr w.heap.size 0) _ w' ι _ (h w.heap.size es clock since seen c0 hfr ⟨k2, k3, k4, k6⟩) (.ptr _ _) (Imm.le_refl _) ?_
  have r1 : Rel B ι (H.set b (exB (.map es clock))) w := hr.grownO hb (owns_nocell hown) ⟨rfl, rfl, rfl, Nat.le_refl _, fun _ _ _ => rfl⟩ hb1
  -- the new block
  have old : ∀ {c : Nat}, c < w.heap.size → w'.heap[c]? = w.heap[c]? := fun hc => hg.block _ hc (by simp)
  refine ⟨r1.below.grown hg r1.size (fun k hk => by cases hk), by have := r1.size; omega, fun c o' v hh => ?_, r1.iold, fun c y hh => ?_, fun c y hh p hp => ?_, fun c y hh o' g1 g2 => ?_, fun c y hh q' hq' => ?_⟩
  · have := r1.imm _ _ _ hh
    rw [World.cell?_of_block (w := w) (old (blt this))]; exact this
  · by_cases hc : c = w.heap.size
    · subst hc; rw [Heap.set_same] at hh; cases hh
      exact ⟨r1.size, by omega, Nat.le_refl _⟩
    · rw [Heap.set_ne _ _ hc] at hh
      obtain ⟨h1, h2, h3⟩ := r1.lo c y hh
      exact ⟨h1, by omega, h3⟩
  · by_cases hc : c = w.heap.size
    · subst hc; rw [Heap.set_same] at hh; cases hh
      exact absurd hp (by simp [exB])
    · rw [Heap.set_ne _ _ hc] at hh
      obtain ⟨v, h1, h2⟩ := r1.cell c y hh p hp
      exact ⟨v, by rw [World.cell?_of_block (w := w) (old (r1.lo c y hh).2.1)]; exact h1, h2⟩
  · by_cases hc : c = w.heap.size
    · subst hc; rw [Heap.set_same] at hh; cases hh
      exact absurd g2 (by simp [exB])
    · rw [Heap.set_ne _ _ hc] at hh
      obtain ⟨⟨v, g3⟩, g4, g5⟩ := r1.room c y hh o' g1 g2
      have hlt := (r1.lo c y hh).2.1
      exact ⟨⟨v, by rw [World.cell?_of_block (w := w) (old hlt)]; exact g3⟩, by rw [World.frozen?_of_block (w := w) (old hlt)]; exact g4, g5⟩
  · by_cases hc : c = w.heap.size
    · subst hc; rw [Heap.set_same] at hh; cases hh; cases hq'
      exact ⟨rfl, k5⟩
    · rw [Heap.set_ne _ _ hc] at hh
      obtain ⟨h1, h2⟩ := r1.obj c y hh q' hq'
      exact ⟨h1, by rw [old (r1.lo c y hh).2.1]; exact h2⟩
theorem ranges_of {w : World} {kt et : TypeId} {b r n : Nat} {D : DataW Unit} {left : Lit → Bool} {cnt : Nat} {es : Array MapEntry} {clock since : Nat} {seen : Array Nat} {c0 : Nat} (hb : w.heap[b]? = some (.map es clock)) (hr : w.heap[r]? = some (.mapIter (some b) since seen c0)) (h : RgF P kt et b n D left cnt es clock since seen c0) : w.ranges P kt (plainElem P et) b r n D left cnt := by
  obtain ⟨h1, h2, h3, h4⟩ := h
  exact ⟨es, clock, since, seen, c0, hb, h1, h2, h3, hr, h4⟩
/-- What the entry says that has come out last. -/
def EntF (P : Program) (b r : Nat) (es : Array MapEntry) (clock since : Nat) (seen : Array Nat) (c0 : Nat) (key val : Int) : Prop := ∀ w : World, w.heap[b]? = some (.map es clock) → w.heap[r]? = some (.mapIter (some b) since seen c0) → (Instr.entry (.pointer (some ⟨r, 0, none⟩))).run P w = .ok (.tuple #[.int .i64 key, .int .i64 val]) w
theorem opNextM {kt et : TypeId} {x : Operand} {b r n : Nat} {D : DataW Unit} {left : Lit → Bool} {cnt : Nat} {es : Array MapEntry} {clock since : Nat} {seen : Array Nat} {c0 : Nat} (ho : o.op = .next x false) (hkt : P.underlying kt = some (.int .i64)) (het : P.underlying et = some (.int .i64)) (hx : ev e x = .ptr r 0)
    (hb : H b = some (exB (.map es clock))) (hr : H r = some (exB (.mapIter (some b) since seen c0))) (hF : RgF P kt et b n D left cnt es clock since seen c0)
    (hDone : cnt = 0 → (∀ kl, left kl = false) → K (.tup [.bool false]) H)
    (hMore : ∀ key val cnt' since' seen' c0', (Lit.int .i64 key).wf = true → left (.int .i64 key) = true → RgF P kt et b n D (fun z => left z && !z.sameKey (.int .i64 key)) cnt' es clock since' seen' c0' → cnt' < cnt → EntF P b r es clock since' seen' c0' key val → K (.tup [.bool true, .int .i64 key, .int .i64 val]) (H.set r (exB (.mapIter (some b) since' seen' c0')))) : Heavy P o e H K := by
  intro e' he B ι a w m hrel hE next Q hk
  have h1 := hE.ev x
  rw [he x (by simp [ho, Op.operands]), hx] at h1
  have h1 : a.eval x = .pointer (some ⟨r, 0, none⟩) := h1.ptr_inv
  have wb := hrel.exact hb
  have wr := hrel.exact hr
  have hrg := ranges_of (P := P) wb wr hF
  have hne := hrg.ne
  unfold Oper.wp
  rcases hrg.next (int_keyed hkt) o.type with ⟨k1, k2, hrun⟩ | ⟨key, v, kl, y, w', cnt', hkey, hlk, hv, hat, hrun, hrg', hlt, hg, hsz, hen⟩
  · have : (execOp a.eval o).run P w = .ok (.value (.tuple #[.bool false])) w := by
      simp [execOp, ho, h1, hrun, Result.andThen]
    rw [this]
    refine hk (.tup [.bool false]) _ w ι H (hDone k1 k2) (.tup _ rfl fun p hp => ?_) (Imm.le_refl _) hrel
    obtain rfl : p = 0 := by simp at hp; omega
    exact .bool _
  · obtain ⟨key, rfl, rfl, hwk⟩ := keyOf_int_inv hkt hkey
    obtain ⟨val, rfl, _, hwv⟩ := plainElem_int_inv het hv
    have : (execOp a.eval o).run P w = .ok (.value (.tuple #[.bool true, .int .i64 key, .int .i64 val])) w' := by
      simp [execOp, ho, h1, hrun, Result.andThen]
    rw [this]
    obtain ⟨es2, clock2, since2, seen2, c02, q1, q2, q3, q4, q5, q6⟩ := hrg'
    have hbl : b < w.heap.size := (hrel.lo b _ hb).2.1
    have e1 : w'.heap[b]? = w.heap[b]? := hg.block b hbl (fun k => hne (Option.some.inj k).symm)
    rw [e1, wb] at q1
    cases q1
    have hent : EntF P b r es clock since2 seen2 c02 key val := by
      intro u ub ur
      have wb' : w'.heap[b]? = some (.map es clock) := by rw [e1]; exact wb
      cases hs : seen2.back? with
      | none => simp [Instr.entry, getObj, Sem.run_bind, Sem.run, q5, wb', Result.andThen, hs, stuck] at hen
      | some st =>
        by_cases hc : clock = c02
        · subst hc
          cases hf : es.find? (·.born == st) with
          | none => simp [Instr.entry, getObj, Sem.run_bind, Sem.run, q5, wb', Result.andThen, hs, hf, unsupported] at hen
          | some e0 =>
            simp [Instr.entry, getObj, Sem.run_bind, Sem.run, q5, wb', Result.andThen, hs, hf] at hen
            simp [Instr.entry, getObj, Sem.run_bind, Sem.run, ur, ub, Result.andThen, hs, hf]
            exact hen
        · simp [Instr.entry, getObj, Sem.run_bind, Sem.run, q5, wb', Result.andThen, hs, hc, unsupported] at hen
    refine hk _ _ w' ι _ (hMore key val cnt' since2 seen2 c02 hwk hlk ⟨q2, q3, q4, q6⟩ hlt hent) (.tup _ rfl fun p hp => ?_) (Imm.le_refl _) (hrel.grownO hr (fun o' => by simp [World.cell?, wr]) hg q5)
    have : p = 0 ∨ p = 1 ∨ p = 2 := by simp at hp; omega
    rcases this with rfl | rfl | rfl
    · exact .bool _
    · exact .int _ _
    · exact .int _ _
theorem opEntryM {x : Operand} {b r : Nat} {es : Array MapEntry} {clock since : Nat} {seen : Array Nat} {c0 : Nat} {key val : Int} (ho : o.op = .entry x) (hx : ev e x = .ptr r 0) (hb : H b = some (exB (.map es clock))) (hr : H r = some (exB (.mapIter (some b) since seen c0))) (hF : EntF P b r es clock since seen c0 key val) : Light P o e H (.tup [.int .i64 key, .int .i64 val]) [b, r] := by
  intro e' H' he hD B ι a w m hrel hE next Q hk
  have h1 := hE.ev x
  rw [he x (by simp [ho, Op.operands]), hx] at h1
  have h1 := h1.ptr_inv
  have wb := hrel.exact (b := b) (x := .map es clock) (by rw [hD b (by simp)]; exact hb)
  have wr := hrel.exact (b := r) (x := .mapIter (some b) since seen c0) (by rw [hD r (by simp)]; exact hr)
  have hrun := hF w wb wr
  unfold Oper.wp
  have : (execOp a.eval o).run P w = .ok (.value (.tuple #[.int .i64 key, .int .i64 val])) w := by
    simp [execOp, ho, h1, hrun, Result.andThen]
  rw [this]
  refine hk _ _ w ι H' ⟨rfl, rfl⟩ (.tup _ rfl fun p hp => ?_) (Imm.le_refl _) hrel
  have : p = 0 ∨ p = 1 := by simp at hp; omega
  rcases this with rfl | rfl
  · exact .int _ _
  · exact .int _ _
end
end Go.Proofs.Ythdclobnmicdaaa.E
