/- Memory: addresses, loads, stores, new rows. -/
import Derived.Test.YthdoebgikbfndaaE2
namespace Go.Proofs.Ythdoebgikbfndaa.E
open Go Go.RowKit
set_option linter.unusedVariables false

theorem flat_length {s : Nat} : ∀ {xs : List AV}, (∀ x ∈ xs, (cells x).length = s) → (flat xs).length = xs.length * s
  | [], _ => by simp [flat]
  | x :: xs, h => by
    have := flat_length (xs := xs) fun y hy => h y (List.mem_cons_of_mem _ hy)
    simp only [flat, List.flatMap_cons, List.length_append, List.length_cons] at *
    rw [this, h x List.mem_cons_self, Nat.add_mul]
    omega

theorem flat_get {s : Nat} : ∀ {xs : List AV}, (∀ x ∈ xs, (cells x).length = s) → ∀ (i : Nat) (x : AV), xs[i]? = some x → ∀ j, j < s → (flat xs)[i * s + j]? = (cells x)[j]?
  | [], _, i, x, h, j, hj => by simp at h
  | y :: ys, h, 0, x, hx, j, hj => by
    simp at hx; subst hx
    simp only [flat, List.flatMap_cons, Nat.zero_mul, Nat.zero_add]
    rw [List.getElem?_append_left]
    rw [h y List.mem_cons_self]; exact hj
  | y :: ys, h, i + 1, x, hx, j, hj => by
    have ih := flat_get (xs := ys) (fun z hz => h z (List.mem_cons_of_mem _ hz)) i x (by simpa using hx) j hj
    simp only [flat, List.flatMap_cons] at *
    rw [List.getElem?_append_right (by rw [h y List.mem_cons_self, Nat.add_mul]; omega), h y List.mem_cons_self, ← ih]
    congr 1
    rw [Nat.add_mul]; omega

theorem flat_one : ∀ (xs : List AV), (∀ x ∈ xs, cells x = [x]) → flat xs = xs
  | [], _ => rfl
  | x :: xs, h => by
    have := flat_one xs fun y hy => h y (List.mem_cons_of_mem _ hy)
    simp only [flat, List.flatMap_cons] at *
    rw [this, h x List.mem_cons_self]; rfl
theorem flat_append (xs ys : List AV) : flat (xs ++ ys) = flat xs ++ flat ys := by simp [flat]

theorem Addr_add (b o n : Nat) : (⟨b, o, none⟩ : Addr).add n = ⟨b, o + n, none⟩ := by
  unfold Addr.add
  split
  · rename_i h; subst h; rfl
  · rfl

/-- What the proofs ask of types. -/
def sizeA (P : Program) (t : TypeId) : Option Nat := (P.info? t).map (·.size)
def bytesA (P : Program) (t : TypeId) : Option Nat := (P.info? t).map (·.bytes)
def zeroA (P : Program) (t : TypeId) : Option Value := (P.info? t).bind (·.zero)
def aggA (P : Program) (t : TypeId) : Option Bool := (P.underlying t).map fun | .struct _ => true | .array _ _ => true | _ => false
/-- A slice type's element type. -/
def elemA (P : Program) (t : TypeId) : Option TypeId := match P.underlying t with | some (.slice e) => some e | _ => none
/-- Where a field lies. -/
def fieldA (P : Program) (t : TypeId) (f : Nat) : Option Nat := match P.underlying t with
  | some (.struct fs) => match fs[f]? with
    | some x => match P.info? x.type with
      | some i => if i.size = 0 then none else some x.offset
      | none => none
    | none => none
  | _ => none
/-- A field of a value: where it lies, its cells, is it a struct. -/
def partA (P : Program) (t : TypeId) (f : Nat) : Option (Nat × Nat × Bool) := match P.underlying t with
  | some (.struct fs) => match fs[f]? with
    | some x => match sizeA P x.type, aggA P x.type with
      | some s, some g => some (x.offset, s, g)
      | _, _ => none
    | none => none
  | _ => none

section
variable {P : Program} {w : World}
theorem run_sizeOf {t s : Nat} (h : sizeA P t = some s) : (sizeOf t).run P w = .ok s w := by
  unfold sizeA at h
  cases hi : P.info? t with
  | none => rw [hi] at h; simp at h
  | some i => rw [hi] at h; simp at h; simp [sizeOf, typeInfo, hi, h]
theorem run_isAgg {t : Nat} {b : Bool} (h : aggA P t = some b) : (isAgg t).run P w = .ok b w := by
  unfold aggA at h
  cases hi : P.underlying t with
  | none => rw [hi] at h; simp at h
  | some d => rw [hi] at h; simp at h; subst h; simp [isAgg, run_underlying hi]; cases d <;> rfl
theorem run_zero {t : Nat} {z : Value} (h : zeroA P t = some z) : (zeroValue t).run P w = .ok z w := by
  unfold zeroA at h
  cases hi : P.info? t with
  | none => rw [hi] at h; simp at h
  | some i => rw [hi] at h; simp at h; simp [zeroValue, typeInfo, hi, h]
theorem elemA_spec {t e : Nat} (h : elemA P t = some e) : P.underlying t = some (.slice e) := by
  unfold elemA at h
  split at h
  · rename_i x hx; simp at h; subst h; exact hx
  · simp at h
end

section mem
variable {P : Program} {o : Oper} {e : Env} {H : Heap}

theorem V.rptr_drop {ι : Imm} {xs : List AV} {b q : Nat} (vs : Nat → Value) (h1 : ∀ p, p < xs.length → ι b (q + p) = some (vs p)) (h2 : ∀ p (h : p < xs.length), V ι (xs[p]) (vs p)) (k : Nat) :
    V ι (.rptr (xs.drop k)) (.pointer (some ⟨b, q + k, none⟩)) := by
  refine .rptr (fun p => vs (k + p)) (fun p hp => ?_) (fun p hp => ?_)
  · have : k + p < xs.length := by simp at hp; omega
    rw [Nat.add_assoc]; exact h1 _ this
  · have : k + p < xs.length := by simp at hp; omega
    rw [List.getElem_drop]; exact h2 _ this

theorem run_fieldAt {w : World} {t f k b q : Nat} (h : fieldA P t f = some k) : (Instr.fieldAt t (.pointer (some ⟨b, q, none⟩)) f).run P w = .ok (.pointer (some ⟨b, q + k, none⟩)) w := by
  unfold fieldA at h
  split at h
  · rename_i fs hfs
    split at h
    · rename_i x hx
      split at h
      · rename_i i hi
        split at h
        · simp at h
        · rename_i hz
          simp at h
          subst h
          have hs : sizeA P x.type = some i.size := by simp [sizeA, hi]
          simp [Instr.fieldAt, run_underlying hfs, hx, Instr.sureAddr, fieldPlace, run_sizeOf hs, hz, Addr_add]
      · simp at h
    · simp at h
  · simp at h

theorem opFieldAddrR {t f k : Nat} {x : Operand} {xs : List AV} {v : AV} (ho : o.op = .fieldAddr t x f) (hf : fieldA P t f = some k) (hx : ev e x = .rptr xs) (hv : v = .rptr (xs.drop k)) : Light P o e H v [] :=
  Light.of_run fun ι ρ w hi hV => by
    have h1 := hV x (by simp [ho, Op.operands]); rw [hx] at h1
    obtain ⟨b, q, vs, h, g1, g2⟩ := h1.rptr_inv
    exact ⟨_, by simp [execOp, ho, h, run_fieldAt hf]; rfl, by rw [hv]; exact V.rptr_drop vs g1 g2 k⟩
theorem opFieldAddr {t f k b q : Nat} {x : Operand} {v : AV} (ho : o.op = .fieldAddr t x f) (hf : fieldA P t f = some k) (hx : ev e x = .ptr b q) (hv : v = .ptr b (q + k)) : Light P o e H v [] :=
  Light.of_run fun ι ρ w hi hV => by
    have h1 := hV x (by simp [ho, Op.operands]); rw [hx] at h1
    exact ⟨_, by simp [execOp, ho, h1.ptr_inv, run_fieldAt hf]; rfl, by rw [hv]; constructor⟩

theorem run_indexAt {w : World} {t el s b q l c : Nat} {k : IntKind} {i : Int} (h : elemA P t = some el) (hs : sizeA P el = some s) (h0 : 0 ≤ i) (h1 : i < l) :
    (Instr.indexAt t (.slice (some ⟨b, q, none⟩) l c) (.int k i)).run P w = .ok (.pointer (some ⟨b, q + i.toNat * s, none⟩)) w := by
  simp [Instr.indexAt, asIntOf, run_underlying (elemA_spec h), h0, h1, run_sizeOf hs, Addr_add]

theorem opIndexAddrL {t el s : Nat} {x y : Operand} {xs : List AV} {k : IntKind} {i : Int} {z v : AV} (ho : o.op = .indexAddr t x y) (hx : ev e x = .list s xs) (hy : ev e y = .int k i)
    (ht : elemA P t = some el) (hs : sizeA P el = some s) (h0 : 0 ≤ i) (hz : xs[i.toNat]? = some z) (hv : v = .rptr (cells z)) : Light P o e H v [] :=
  Light.of_run fun ι ρ w hi hV => by
    have g1 := hV x (by simp [ho, Op.operands]); rw [hx] at g1
    have g2 := hV y (by simp [ho, Op.operands]); rw [hy] at g2
    obtain ⟨hl, hq⟩ := List.getElem?_eq_some_iff.mp hz
    rcases g1.list_inv with ⟨rfl, _⟩ | ⟨b, q, cap, vs, h, hss, hc, f1, f2⟩
    · simp at hl
    · refine ⟨_, by simp [execOp, ho, h, g2.int_inv, run_indexAt (l := xs.length) ht hs h0 (by omega)]; rfl, ?_⟩
      rw [hv]
      have hlen := flat_length hss
      have hzs : (cells z).length = s := hss z (List.mem_of_getElem? hz)
      have hb : ∀ p, p < s → i.toNat * s + p < (flat xs).length := by
        intro p hp
        rw [hlen]
        have : (i.toNat + 1) * s ≤ xs.length * s := Nat.mul_le_mul_right _ hl
        rw [Nat.add_mul] at this
        omega
      refine .rptr (fun p => vs (i.toNat * s + p)) (fun p hp => ?_) (fun p hp => ?_)
      · rw [Nat.add_assoc]; exact f1 _ (hb p (by omega))
      · have hp' : p < s := by omega
        have := f2 _ (hb p hp')
        have e1 := flat_get hss i.toNat z hz p hp'
        rw [List.getElem?_eq_getElem (hb p hp'), List.getElem?_eq_getElem hp] at e1
        rw [Option.some.inj e1] at this
        exact this
theorem opIndexAddr {t el s b q l c : Nat} {x y : Operand} {k : IntKind} {i : Int} {v : AV} (ho : o.op = .indexAddr t x y) (hx : ev e x = .slc b q l c) (hy : ev e y = .int k i)
    (ht : elemA P t = some el) (hs : sizeA P el = some s) (h0 : 0 ≤ i) (h1 : i < l) (hv : v = .ptr b (q + i.toNat * s)) : Light P o e H v [] :=
  Light.of_run fun ι ρ w hi hV => by
    have g1 := hV x (by simp [ho, Op.operands]); rw [hx] at g1
    have g2 := hV y (by simp [ho, Op.operands]); rw [hy] at g2
    exact ⟨_, by simp [execOp, ho, g1.slc_inv, g2.int_inv, run_indexAt ht hs h0 h1]; rfl, by rw [hv]; constructor⟩

theorem run_load1 {w : World} {t b q : Nat} {v : Value} (ht : aggA P t = some false) (h : w.cell? ⟨b, q, none⟩ = some v) : (Instr.loadAt t (.pointer (some ⟨b, q, none⟩))).run P w = .ok v w := by
  simp [Instr.loadAt, Instr.sureAddr, loadVar, run_isAgg ht, h]

theorem run_loadA {w : World} {t b q s : Nat} (vs : Nat → Value) (ht : aggA P t = some true) (hs : sizeA P t = some s) (h : ∀ p, p < s → w.cell? ⟨b, q + p, none⟩ = some (vs p)) :
    ∃ cs : Array Value, (Instr.loadAt t (.pointer (some ⟨b, q, none⟩))).run P w = .ok (.agg cs) w ∧ cs.size = s ∧ ∀ p, p < s → cs.getD p Go.undef = vs p := by
  have := run_loadCells (P := P) w ⟨b, q, none⟩ s vs (fun j hj => by rw [Addr_add]; exact h j hj)
  refine ⟨_, by simp [Instr.loadAt, Instr.sureAddr, loadVar, run_isAgg ht, run_sizeOf hs, this]; rfl, by simp, fun p hp => ?_⟩
  rw [getD_lt _ _ (by simpa using hp)]
  simp

theorem opLoadR {t : Nat} {x : Operand} {xs : List AV} {v : AV} (ho : o.op = .load t x) (ht : aggA P t = some false) (hx : ev e x = .rptr xs) (hv : xs[0]? = some v) : Light P o e H v [] :=
  Light.of_run fun ι ρ w hi hV => by
    have h1 := hV x (by simp [ho, Op.operands]); rw [hx] at h1
    obtain ⟨b, q, vs, h, g1, g2⟩ := h1.rptr_inv
    obtain ⟨hl, hq⟩ := List.getElem?_eq_some_iff.mp hv
    have h0 : w.cell? ⟨b, q, none⟩ = some (vs 0) := hi _ _ _ (g1 0 hl)
    refine ⟨vs 0, by simp [execOp, ho, h, run_load1 ht h0], ?_⟩
    rw [← hq]; exact g2 0 hl
theorem opLoadRA {t s : Nat} {x : Operand} {xs : List AV} {v : AV} (ho : o.op = .load t x) (ht : aggA P t = some true) (hs : sizeA P t = some s) (hx : ev e x = .rptr xs) (hl : s ≤ xs.length) (hv : v = .agg (xs.take s)) : Light P o e H v [] :=
  Light.of_run fun ι ρ w hi hV => by
    have h1 := hV x (by simp [ho, Op.operands]); rw [hx] at h1
    obtain ⟨b, q, vs, h, g1, g2⟩ := h1.rptr_inv
    obtain ⟨cs, r1, r2, r3⟩ := run_loadA (P := P) (w := w) vs ht hs (fun p hp => hi _ _ _ (g1 p (by omega)))
    refine ⟨_, by simp [execOp, ho, h, r1]; rfl, ?_⟩
    rw [hv]
    refine .agg cs (by simp; omega) fun p hp => ?_
    have hp' : p < s := by simp at hp; omega
    rw [r3 p hp', List.getElem_take]
    exact g2 p (by omega)

theorem Light.of_run_at {b : Nat} {v : AV}
    (h : ∀ (B : Base) (ι : Imm) (ρ : Operand → Value) (w : World) (H' : Heap), Rel B ι H' w → H' b = H b → (∀ x ∈ o.op.operands, V ι (ev e x) (ρ x)) → ∃ r, (execOp ρ o).run P w = .ok (.value r) w ∧ V ι v r) : Light P o e H v [b] := by
  intro e' H' he hb B ι a w n hr hE next Q hk
  obtain ⟨r, h1, h2⟩ := h B ι a.eval w H' hr (hb b (by simp)) (fun x hx => by rw [← he x hx]; exact hE.ev x)
  unfold Oper.wp
  rw [h1]
  exact hk v r w ι H' ⟨rfl, rfl⟩ h2 (Imm.le_refl _) hr

theorem opLoad {t b q p : Nat} {x : Operand} {blk : Blk} {v : AV} (ho : o.op = .load t x) (ht : aggA P t = some false) (hx : ev e x = .ptr b q) (hH : H b = some blk) (hq : q = blk.lo + p) (hv : blk.cs[p]? = some v) : Light P o e H v [b] :=
  Light.of_run_at fun B ι ρ w H' hr hb hV => by
    have h1 := hV x (by simp [ho, Op.operands]); rw [hx] at h1
    obtain ⟨hl, hq'⟩ := List.getElem?_eq_some_iff.mp hv
    obtain ⟨u, g1, g2⟩ := hr.cell b blk (by rw [hb]; exact hH) p hl
    rw [← hq] at g1
    refine ⟨u, by simp [execOp, ho, h1.ptr_inv, run_load1 ht g1], ?_⟩
    rw [← hq']; exact g2
theorem opLoadA {t b q p s : Nat} {x : Operand} {blk : Blk} {v : AV} (ho : o.op = .load t x) (ht : aggA P t = some true) (hs : sizeA P t = some s) (hx : ev e x = .ptr b q) (hH : H b = some blk) (hq : q = blk.lo + p)
    (hl : p + s ≤ blk.cs.length) (hv : v = .agg ((blk.cs.drop p).take s)) : Light P o e H v [b] :=
  Light.of_run_at fun B ι ρ w H' hr hb hV => by
    have h1 := hV x (by simp [ho, Op.operands]); rw [hx] at h1
    have hc := hr.cell b blk (by rw [hb]; exact hH)
    obtain ⟨cs, r1, r2, r3⟩ := run_loadA (P := P) (w := w) (b := b) (q := q) (s := s) (fun j => (w.cell? ⟨b, blk.lo + (p + j), none⟩).getD Go.undef) ht hs (fun j hj => by
      obtain ⟨u, g1, _⟩ := hc (p + j) (by omega)
      rw [hq, Nat.add_assoc, g1]; rfl)
    refine ⟨_, by simp [execOp, ho, h1.ptr_inv, r1]; rfl, ?_⟩
    rw [hv]
    refine .agg cs (by simp; omega) fun j hj => ?_
    have hj' : j < s := by simp at hj; omega
    obtain ⟨u, g1, g2⟩ := hc (p + j) (by omega)
    rw [r3 j hj', g1]
    simp only [List.getElem_take, List.getElem_drop, Option.getD_some]
    exact g2

theorem run_part {w : World} {t f k s : Nat} {g : Bool} {cs : Array Value} (h : partA P t f = some (k, s, g)) (hl : k + s ≤ cs.size) (hs : g = false → s = 1) :
    ∃ r, (Instr.field t (.agg cs) f).run P w = .ok r w ∧ r = if g then .agg (cs.extract k (k + s)) else cs.getD k Go.undef := by
  unfold partA at h
  split at h
  · rename_i fs hfs
    split at h
    · rename_i x hx
      split at h
      · rename_i a b ha hb
        simp at h
        obtain ⟨rfl, rfl, rfl⟩ := h
        cases b with
        | true => exact ⟨_, by simp [Instr.field, run_underlying hfs, hx, asAgg, part, run_isAgg hb, run_sizeOf ha]; rfl, by simp⟩
        | false =>
          have : x.offset < cs.size := by have := hs rfl; omega
          exact ⟨_, by simp [Instr.field, run_underlying hfs, hx, asAgg, part, run_isAgg hb, this]; rfl, by simp [this]⟩
      · simp at h
    · simp at h
  · simp at h

theorem opField {t f k : Nat} {x : Operand} {xs : List AV} {v : AV} (ho : o.op = .field t x f) (hf : partA P t f = some (k, 1, false)) (hx : ev e x = .agg xs) (hv : xs[k]? = some v) : Light P o e H v [] :=
  Light.of_run fun ι ρ w hi hV => by
    have h1 := hV x (by simp [ho, Op.operands]); rw [hx] at h1
    obtain ⟨cs, h, hl, hc⟩ := h1.agg_inv
    obtain ⟨hp, hq⟩ := List.getElem?_eq_some_iff.mp hv
    obtain ⟨r, r1, r2⟩ := run_part (w := w) (cs := cs) hf (by omega) (fun _ => rfl)
    refine ⟨r, by simp [execOp, ho, h, r1], ?_⟩
    rw [r2, ← hq]; exact hc k hp
theorem opFieldA {t f k s : Nat} {x : Operand} {xs : List AV} {v : AV} (ho : o.op = .field t x f) (hf : partA P t f = some (k, s, true)) (hx : ev e x = .agg xs) (hl : k + s ≤ xs.length) (hv : v = .agg ((xs.drop k).take s)) : Light P o e H v [] :=
  Light.of_run fun ι ρ w hi hV => by
    have h1 := hV x (by simp [ho, Op.operands]); rw [hx] at h1
    obtain ⟨cs, h, hl', hc⟩ := h1.agg_inv
    obtain ⟨r, r1, r2⟩ := run_part (w := w) (cs := cs) hf (by omega) (fun h => by simp at h)
    refine ⟨r, by simp [execOp, ho, h, r1], ?_⟩
    rw [r2, hv]
    refine .agg _ (by simp; omega) fun p hp => ?_
    have hp' : p < s := by simp at hp; omega
    rw [getD_lt _ _ (by simp; omega)]
    simp only [List.getElem_take, List.getElem_drop, Array.getElem_extract]
    have := hc (k + p) (by omega)
    rw [getD_lt _ _ (by omega)] at this
    exact this

theorem opIndexS {t : Nat} {x y : Operand} {s : ByteArray} {k : IntKind} {i : Int} {v : AV} (ho : o.op = .index t x y) (ht : P.underlying t = some .string) (hx : ev e x = .str s) (hy : ev e y = .int k i) (h0 : 0 ≤ i) (h1 : i < s.size)
    (hv : v = .int .u8 ((s.data.toList.getD i.toNat 0).toNat : Int)) : Light P o e H v [] :=
  Light.of_run fun ι ρ w hi hV => by
    have g1 := hV x (by simp [ho, Op.operands]); rw [hx] at g1
    have g2 := hV y (by simp [ho, Op.operands]); rw [hy] at g2
    have hl : i.toNat < s.size := by omega
    refine ⟨.int .u8 (s[i.toNat].toNat : Int), by simp [execOp, ho, g1.str_inv, g2.int_inv, Instr.index, asIntOf, run_underlying ht, h0, hl], ?_⟩
    rw [hv]
    have : s.data.toList.getD i.toNat 0 = s[i.toNat] := by
      have : i.toNat < s.data.toList.length := by simpa using hl
      rw [List.getD_eq_getElem?_getD, List.getElem?_eq_getElem this]
      rfl
    rw [this]
    constructor

end mem
end Go.Proofs.Ythdoebgikbfndaa.E
