/- More operations: nothing, literals, fields of elements, bytes. -/
import Derived.Test.YthdoebgikbfndaaF1
namespace Go.Proofs.Ythdoebgikbfndaa.E
open Go Go.RowKit
set_option linter.unusedVariables false

theorem wrapU_nn {k : IntKind} (h : (k == .u64 || k == .u8 || k == .u32 || k == .u16) = true) (a : Int) : 0 ≤ k.wrap a := by
  cases k <;> first | (exact absurd h (by decide)) | (unfold IntKind.wrap; simp [IntKind.signed, IntKind.bits]; omega)
theorem Scal.row {α : Type} {f : α → AV} {zs : List α} (h : ∀ a, ∀ c ∈ cells (f a), Scal c) : ∀ x ∈ flat (zs.map f), Scal x := by
  intro x hx
  simp only [flat, List.mem_flatMap, List.mem_map] at hx
  obtain ⟨_, ⟨a, _, rfl⟩, hx⟩ := hx
  exact h a x hx
theorem Sep.one {H : Heap} {L : List Res} (hS : Sep H L) {k s : Nat} {v : AV} {xs : List AV} (hk : L[k]? = some (.row s v xs)) : v.one = true := Own.one (hS.get hk : Own _ _ _ _)
def ptrOff (v : AV) (i s p : Nat) : AV := match ptrTo v i s with
  | .ptr b q => .ptr b (q + p)
  | _ => .undef
def planA (P : Program) (t : TypeId) : Option (List (Nat × Nat)) := match P.underlying t with
  | some (.struct fs) => fs.toList.mapM fun f => (sizeA P f.type).map fun s => (f.offset, s)
  | _ => none

section
variable {P : Program} {o : Oper} {e : Env} {H : Heap} {K : AV → Heap → Prop}
theorem opNilL {x : Operand} {s : Nat} (ho : o.op = .assign x) (hx : ev e x = .nil) : Light P o e H (.list s []) [] :=
  Light.of_run fun ι ρ w hi hv => ⟨ρ x, by simp [execOp, ho], by have := hv x (by simp [ho, Op.operands]); rw [hx] at this; rw [this.nil_inv]; exact .listNil _ _ _⟩
theorem opNilLM {x : Operand} {s : Nat} (ho : o.op = .move x) (hx : ev e x = .nil) : Light P o e H (.list s []) [] :=
  Light.of_run fun ι ρ w hi hv => ⟨ρ x, by simp [execOp, ho], by have := hv x (by simp [ho, Op.operands]); rw [hx] at this; rw [this.nil_inv]; exact .listNil _ _ _⟩
theorem opCat {xT yT : TypeId} {x y : Operand} {a b c : ByteArray} (h : cat a b = some c) (ho : o.op = .binOp .add xT x y yT) (hx : ev e x = .str a) (hy : ev e y = .str b) : Light P o e H (.str c) [] := by
  obtain ⟨h1, rfl⟩ := catE h
  exact opStr ho hx hy (by simp only [if_neg h1])
theorem kIxS {t : Nat} {x y : Operand} {s : ByteArray} {k : IntKind} {i c : Int} (h : ixs s i = some c) (ho : o.op = .index t x y) (ht : P.underlying t = some .string) (hx : ev e x = .str s) (hy : ev e y = .int k i) : Light P o e H (.int .u8 c) [] := by
  obtain ⟨h0, h1, rfl⟩ := ixsE h
  exact opIndexS ho ht hx hy h0 h1 rfl
theorem qLit {t el s : Nat} {len : Nat} {parts : Array (Nat × Operand)} {z : Value} {xs : List AV} (ho : o.op = .buildSlice t len parts) (ht : elemA P t = some el) (hs : sizeA P el = some s) (hz : zeroA P el = some z) (hzs : z.cells.size = s)
    (hp : parts.toList.map (·.1) = List.range len) (hx : parts.toList.map (fun p => ev e p.2) = xs) (hxs : xs.all AV.told = true) (hc : ∀ x ∈ xs, (cells x).length = s) (hbig : len * s ≤ 16777216) : Quiet P o e H (.list s xs) [] := by
  intro e' H' ha _ K k
  refine opBuildSliceI ho ht hs hz hzs hp ?_ hxs hc hbig k
  rw [← hx]
  exact List.map_congr_left fun p hp => ha p.2 (by
    rw [ho]
    show p.2 ∈ (parts.toList.map (·.2)).toArray
    simp only [List.mem_toArray, List.mem_map]
    exact ⟨p, hp, rfl⟩)
theorem qBoxI {t : Nat} {x : Operand} {v : AV} {cs : List AV} (ho : o.op = .box t x) (hx : ev e x = v) (hv : v.told = true) (hc : cells v = cs) : Quiet P o e H (.rptr cs) [] := by
  subst hc
  intro e' H' ha _ K k
  exact opBoxI ho (by rw [ha x (by simp [ho, Op.operands])]; exact hx) hv k
theorem kFldO {L : List Res} (hS : Sep H L) {j t f p s : Nat} {x : Operand} {α : Type} [Inhabited α] {g : α → AV} {zs : List α} {i : Int} {a : α} {v : AV} (hk : L[j]? = some (.row s v (zs.map g))) (h : ix zs i = some a) (ho : o.op = .fieldAddr t x f) (hf : fieldA P t f = some p) (hx : ev e x = ptrTo v i.toNat s) :
    Light P o e H (ptrOff v i.toNat s p) [] := by
  obtain ⟨h0, h1, h2⟩ := ixE h
  obtain ⟨b, q, c, rfl⟩ := (hS.get hk : Own _ _ _ _).slc (by simp; omega)
  exact opFieldAddr ho hf hx rfl
theorem kFldC {L : List Res} (hS : Sep H L) {j t f p s m : Nat} {x : Operand} {α : Type} {g : α → AV} {zs : List α} {i : Int} {v : AV} (hk : L[j]? = some (.row s v (zs.map g))) (h : ck i zs.length = some m) (ho : o.op = .fieldAddr t x f) (hf : fieldA P t f = some p) (hx : ev e x = ptrTo v m s) :
    Light P o e H (ptrOff v m s p) [] := by
  obtain ⟨h0, h1, rfl, h3⟩ := ckE h
  obtain ⟨b, q, c, rfl⟩ := (hS.get hk : Own _ _ _ _).slc (by simp; omega)
  exact opFieldAddr ho hf hx rfl
theorem kLdP {L : List Res} (hS : Sep H L) {j t s p : Nat} {x : Operand} {α : Type} [Inhabited α] {f : α → AV} {zs : List α} {i : Int} {a : α} {v w : AV} (hk : L[j]? = some (.row s v (zs.map f))) (h : ix zs i = some a) (ho : o.op = .load t x) (ht : aggA P t = some false) (hx : ev e x = ptrOff v i.toNat s p) (hw : (cells (f a))[p]? = some w) :
    Light P o e H w (rowB v) := kLdF hS hk h ho ht hx rfl hw
theorem hStF {L : List Res} (hS : Sep H L) {j m t s p : Nat} {x y : Operand} {α : Type} [Inhabited α] {f : α → AV} (g : α → α) {zs : List α} {i : Int} {v u : AV} (hk : L[j]? = some (.row s v (zs.map f))) (hm : ck i zs.length = some m) (ho : o.op = .store t x y) (hs : sizeA P t = some 1) (hx : ev e x = ptrOff v m s p) (hy : ev e y = u)
    (hg : ∀ a, ∃ ys, f a = .agg ys ∧ p < ys.length ∧ f (g a) = .agg (ys.set p u)) (h1 : u.one = true) (h : ∀ G, Sep G (L.set j (.row s v ((zs.set m (g (zs.getD m default))).map f))) → K .undef G) : Heavy P o e H K := by
  obtain ⟨h0, h1', rfl, h3⟩ := ckE hm
  have hO : Own s H v (zs.map f) := hS.get hk
  obtain ⟨b, q, c, rfl⟩ := hO.slc (by simp; omega)
  have hz : zs[i.toNat]? = some (zs.getD i.toNat default) := by simp [h3]
  obtain ⟨ys, e1, e2, e3⟩ := hg (zs.getD i.toNat default)
  refine opStoreOwnF (xs := zs.map f) (ys := ys) (i := i.toNat) (j := p) ho hs hx rfl hy hO (by rw [List.getElem?_map, hz, Option.map_some, e1]) e2 h1 fun G hG hB => h G (hS.upd hk (r' := .row s _ _) ?_ (fun c x hc hx => hB c x hc hx) fun c hc => .inl hc)
  show Own _ _ _ _
  rw [List.map_set, e3]
  exact hG

def putAll (cs : List AV) (pl : List (Nat × Nat)) : List (Nat × AV) → Option (List AV)
  | [] => some cs
  | (i, v) :: r => match pl[i]? with
    | none => none
    | some (o, n) => bif Nat.beq (cells v).length n && Nat.ble (o + n) cs.length && v.told then putAll (setAll cs o (cells v)) pl r else none
theorem foldSet : ∀ (l : List Value) (off n0 : Nat) (cs : Array Value), ((l.zipIdx n0).foldl (fun cs (c : Value × Nat) => cs.setIfInBounds (off + c.2) c.1) cs).size = cs.size
  | [], _, _, _ => rfl
  | x :: l, off, n0, cs => by simp only [List.zipIdx_cons, List.foldl_cons]; rw [foldSet l off (n0 + 1)]; simp
theorem fold_V {ι : Imm} : ∀ (l : List Value) (vs : List AV) (off n0 : Nat) (cs : Array Value) (xs : List AV), l.length = vs.length → off + n0 + l.length ≤ cs.size → cs.size = xs.length → (∀ p (h : p < l.length) (h' : p < vs.length), V ι (vs[p]) (l[p])) →
    (∀ p (h : p < xs.length), V ι (xs[p]) (cs.getD p Go.undef)) → ∀ p (h : p < (setAll xs (off + n0) vs).length), V ι ((setAll xs (off + n0) vs)[p]) (((l.zipIdx n0).foldl (fun cs (c : Value × Nat) => cs.setIfInBounds (off + c.2) c.1) cs).getD p Go.undef)
  | [], [], off, n0, cs, xs, _, _, hs, _, hx, p, h => hx p h
  | [], _ :: _, _, _, _, _, hl, _, _, _, _, _, _ => by simp at hl
  | _ :: _, [], _, _, _, _, hl, _, _, _, _, _, _ => by simp at hl
  | u :: l, v :: vs, off, n0, cs, xs, hl, hb, hs, hv, hx, p, h => by
    simp only [List.zipIdx_cons, List.foldl_cons, setAll] at h ⊢
    simp only [List.length_cons] at hl hb
    have := fold_V l vs off (n0 + 1) (cs.setIfInBounds (off + n0) u) (xs.set (off + n0) v) (by omega) (by simp; omega) (by simp [hs]) (fun q hq hq' => by have := hv (q + 1) (by simp; omega) (by simp; omega); simpa using this) (fun q hq => by
      by_cases e : q = off + n0
      · subst e
        have h0 := hv 0 (by simp) (by simp)
        simp only [List.getElem_cons_zero] at h0
        rw [getD_lt _ _ (by simp; omega)]
        simpa using h0
      · have hq' : q < xs.length := by simpa using hq
        rw [List.getElem_set_ne (Ne.symm e)]
        have := hx q hq'
        simp only [Array.getD_eq_getD_getElem?] at this ⊢
        rw [Array.getElem?_setIfInBounds_ne (Ne.symm e)]
        exact this) p (by rw [Nat.add_assoc] at h; exact h)
    simp only [Nat.add_assoc] at this ⊢
    exact this
theorem fill_V {ι : Imm} {pl : List (Nat × Nat)} : ∀ (us : List (Nat × Value)) (vs : List (Nat × AV)) (cs : Array Value) (xs ys : List AV), us.map (·.1) = vs.map (·.1) → (∀ p (h : p < us.length) (h' : p < vs.length), V ι (vs[p]).2 (us[p]).2) → cs.size = xs.length →
    (∀ p (h : p < xs.length), V ι (xs[p]) (cs.getD p Go.undef)) → putAll xs pl vs = some ys → ∃ ds, Instr.fill (pl[·]?) cs us = some ds ∧ ds.size = ys.length ∧ ∀ p (h : p < ys.length), V ι (ys[p]) (ds.getD p Go.undef)
  | [], [], cs, xs, ys, _, _, hs, hx, hp => by cases hp; exact ⟨cs, rfl, hs, hx⟩
  | [], _ :: _, _, _, _, hm, _, _, _, _ => by simp at hm
  | _ :: _, [], _, _, _, hm, _, _, _, _ => by simp at hm
  | (i, u) :: us, (j, v) :: vs, cs, xs, ys, hm, hv, hs, hx, hp => by
    simp only [List.map_cons, List.cons.injEq] at hm
    obtain ⟨rfl, hm⟩ := hm
    unfold putAll at hp
    split at hp
    · cases hp
    · rename_i o n hpl
      cases hc : (Nat.beq (E.cells v).length n && Nat.ble (o + n) xs.length && v.told) with
      | false => rw [hc] at hp; cases hp
      | true =>
        rw [hc] at hp
        simp only [cond_true] at hp
        simp only [Bool.and_eq_true] at hc
        have h1 := Nat.eq_of_beq_eq_true hc.1.1
        have h2 := Nat.le_of_ble_eq_true hc.1.2
        have hv0 := hv 0 (by simp) (by simp)
        simp only [List.getElem_cons_zero] at hv0
        obtain ⟨c1, c2⟩ := hv0.cells hc.2
        have hfs := foldSet u.cells.toList o 0 cs
        obtain ⟨ds, d1, d2, d3⟩ := fill_V us vs (u.cells.toList.zipIdx.foldl (fun cs (c : Value × Nat) => cs.setIfInBounds (o + c.2) c.1) cs) (setAll xs o (E.cells v)) ys hm (fun p h h' => by have := hv (p + 1) (by simp; omega) (by simp; omega); simpa using this)
          (by rw [hfs, setAll_length]; exact hs) (fun p h => by
            have := fold_V u.cells.toList (E.cells v) o 0 cs xs (by simp [c1]) (by simp; omega) hs (fun q hq hq' => by have := c2 q hq'; rw [getD_lt _ _ (by simpa using hq)] at this; simpa using this) hx p h
            exact this) hp
        refine ⟨ds, ?_, d2, d3⟩
        unfold Instr.fill
        rw [hpl]
        simp only
        rw [if_neg]
        · rw [← d1]; congr 1; rw [← Array.foldl_toList, Array.toList_zipIdx]
        · simp only [Bool.or_eq_true, decide_eq_true_eq, not_or, Nat.not_lt]
          refine ⟨by simp [c1, h1], by omega⟩
theorem opBuild {t : Nat} {parts : Array (Nat × Operand)} {pl : List (Nat × Nat)} {z : Value} {ys : List AV} (ho : o.op = .build t parts) (hp : planA P t = some pl) (hz : zeroA P t = some z) (hn : parts.toList.all (fun p => Nat.blt p.1 pl.length) = true)
    (hv : putAll (cells (avOf z)) pl (parts.toList.map fun p => (p.1, ev e p.2)) = some ys) : Light P o e H (.agg ys) [] :=
  Light.of_run fun ι ρ w hi hV => by
    have hpl : ∃ fs, P.underlying t = some (.struct fs) ∧ fs.toList.mapM (fun f => (sizeA P f.type).map fun s => (f.offset, s)) = some pl := by
      unfold planA at hp
      split at hp
      · rename_i fs h; exact ⟨fs, h, hp⟩
      · cases hp
    obtain ⟨fs, hu, hm⟩ := hpl
    have hrun : ∀ (l : List Field) (pl : List (Nat × Nat)), l.mapM (fun f => (sizeA P f.type).map fun s => (f.offset, s)) = some pl → (l.mapM fun f => do pure (f.offset, ← sizeOf f.type) : Sem (List (Nat × Nat))).run P w = .ok pl w := by
      intro l
      induction l with
      | nil => intro pl h; simp at h; subst h; rfl
      | cons f l ih =>
        intro pl h
        rw [List.mapM_cons] at h
        cases hs : sizeA P f.type with
        | none => rw [hs] at h; cases h
        | some s =>
          rw [hs] at h
          simp only [Option.map_some, Option.bind_eq_bind, Option.bind_some] at h
          cases hl : l.mapM (fun f => (sizeA P f.type).map fun s => (f.offset, s)) with
          | none => rw [hl] at h; cases h
          | some q =>
            rw [hl] at h
            simp at h
            subst h
            rw [List.mapM_cons]
            simp only [Sem.run_bind, run_sizeOf hs, Result.andThen_ok, Sem.run_pure, ih q hl]
    have hm' : (fs.mapM fun f => do pure (f.offset, ← sizeOf f.type) : Sem (Array (Nat × Nat))).run P w = .ok pl.toArray w := by
      rw [← Array.toArray_toList (xs := fs), List.mapM_toArray]
      simp only [Sem.run_map, hrun _ _ hm, Result.andThen_ok]
    obtain ⟨ds, d1, d2, d3⟩ := fill_V (ι := ι) (pl := pl) ((parts.map fun (i, x) => (i, ρ x)).toList) (parts.toList.map fun p => (p.1, ev e p.2)) z.cells (cells (avOf z)) ys (by simp [Function.comp_def]) (fun p h h' => by
      have hp' : p < parts.size := by simpa using h
      simp only [List.getElem_map, Array.toList_map, Array.getElem_toList]
      exact hV _ (by
        rw [ho]
        show _ ∈ (parts.toList.map (·.2)).toArray
        simp only [List.mem_toArray, List.mem_map]
        exact ⟨parts[p], by simp, rfl⟩)) (avOf_size z) (avOf_cells ι z) hv
    refine ⟨.agg ds, ?_, .agg ds d2 d3⟩
    have hg : (fun i : Nat => (pl.toArray)[i]?) = (fun i : Nat => pl[i]?) := by funext i; simp
    simp only [execOp, ho, Instr.build, Sem.run_bind, run_zero hz, Result.andThen_ok, run_underlying hu, hm', hg]
    have d1' : Instr.fill (fun i : Nat => pl[i]?) z.cells (List.map (fun x => (x.fst, ρ x.snd)) parts.toList) = some ds := by rw [← d1, Array.toList_map]
    simp
    rw [d1']
    rfl
end
end Go.Proofs.Ythdoebgikbfndaa.E
