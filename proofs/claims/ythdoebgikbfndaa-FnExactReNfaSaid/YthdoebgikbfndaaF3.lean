/- More operations: bytes to text, zero structs that hold rows, structs held against each other, cuts. -/
import Derived.Test.YthdoebgikbfndaaF2
import Derived.Laws.BytesString
import Derived.Laws.StructEq
namespace Go.Proofs.Ythdoebgikbfndaa.E
open Go Go.RowKit
set_option linter.unusedVariables false

def bstr (xs : List Int) : ByteArray := xs.foldl (fun r n => r.push (UInt8.ofNat n.toNat)) ByteArray.empty
/-- Zero values, told with rows that are empty. -/
def zeroAs : List Value → List AV → Prop
  | [], [] => True
  | v :: vs, a :: as => (avOf v = a ∨ ∃ s, v = .slice none 0 0 ∧ a = .list s []) ∧ zeroAs vs as
  | _, _ => False
theorem zeroAs.get {ι : Imm} : ∀ {vs : List Value} {as : List AV}, zeroAs vs as → vs.length = as.length ∧ ∀ p (h : p < as.length) (h' : p < vs.length), V ι (as[p]) (vs[p])
  | [], [], _ => ⟨rfl, fun p h => by simp at h⟩
  | [], _ :: _, h => h.elim
  | _ :: _, [], h => h.elim
  | v :: vs, a :: as, ⟨h, k⟩ => by
    obtain ⟨i1, i2⟩ := zeroAs.get (ι := ι) k
    refine ⟨by simp [i1], fun p hp hp' => ?_⟩
    cases p with
    | zero =>
      rcases h with rfl | ⟨s, rfl, rfl⟩
      · exact avOf_V ι v
      · exact .listNil _ _ _
    | succ p => exact i2 p (by simpa using hp) (by simpa using hp')
def cut {α : Type} (xs : List α) (l h : Int) : Option (List α) := if 0 ≤ l ∧ l ≤ h ∧ h ≤ xs.length then some ((xs.drop l.toNat).take (h - l).toNat) else none
theorem cutE {α : Type} {xs ys : List α} {l h : Int} (k : cut xs l h = some ys) : 0 ≤ l ∧ l ≤ h ∧ h ≤ xs.length ∧ (xs.drop l.toNat).take (h - l).toNat = ys := by
  unfold cut at k; split at k
  · rename_i g; cases k; exact ⟨g.1, g.2.1, g.2.2, rfl⟩
  · cases k
def cuts (s : ByteArray) (l h : Int) : Option ByteArray := if 0 ≤ l ∧ l ≤ h ∧ h ≤ s.size then some (s.extract l.toNat h.toNat) else none
theorem cutsE {s t : ByteArray} {l h : Int} (k : cuts s l h = some t) : 0 ≤ l ∧ l ≤ h ∧ h ≤ s.size ∧ s.extract l.toNat h.toNat = t := by
  unfold cuts at k; split at k
  · rename_i g; cases k; exact ⟨g.1, g.2.1, g.2.2, rfl⟩
  · cases k

section
variable {P : Program} {o : Oper} {e : Env} {H : Heap} {K : AV → Heap → Prop}
theorem opBstr {s d el : Nat} {x : Operand} {xs : List Int} (ho : o.op = .convert s d x) (hs : elemA P s = some el) (he : P.underlying el = some (.int .u8)) (hd : P.underlying d = some .string) (hx : ev e x = .list 1 (xs.map (AV.int .u8))) : Light P o e H (.str (bstr xs)) [] :=
  Light.of_run fun ι ρ w hi hV => by
    have h1 := hV x (by simp [ho, Op.operands]); rw [hx] at h1
    refine ⟨.string (bstr xs), ?_, .str _⟩
    have key : ∀ a l c, ρ x = .slice a l c → (Conv.bytesToString (.slice a l c)).run P w = .ok (.string (bstr xs)) w → (execOp ρ o).run P w = .ok (.value (.string (bstr xs))) w := by
      intro a l c h2 h3
      have h4 := run_convert_bytes_string (P := P) w s d el a l c (elemA_spec hs) he hd
      rw [h3] at h4
      simp only [execOp, ho, h2]
      simp [h4]
    rcases h1.list_inv with ⟨h0, a, c, hv⟩ | ⟨b, q, cap, vs, hv, hss, hc, f1, f2⟩
    · have : xs = [] := by simpa using h0
      subst this
      refine key _ _ _ hv ?_
      cases a with
      | none => simp [Conv.bytesToString, bstr]
      | some a =>
        have := run_bytesToString (P := P) w a 0 c [] (run_loadCells_list w a [] (by simp))
        exact this
    · refine key _ _ _ hv ?_
      have hfl : flat (xs.map (AV.int .u8)) = xs.map (AV.int .u8) := flat_one _ (by simp [cells])
      rw [hfl] at f1 f2
      have hvs : ∀ p (hp : p < xs.length), vs p = .int .u8 xs[p] := fun p hp => by
        have := f2 p (by simpa using hp)
        rw [List.getElem_map] at this
        exact this.int_inv
      have hl := run_loadCells_list (P := P) w ⟨b, q, none⟩ (xs.map (Value.int .u8)) (fun j v hj => by
        obtain ⟨hj1, hj2⟩ := List.getElem?_eq_some_iff.mp hj
        have hj3 : j < xs.length := by simpa using hj1
        rw [Addr_add, hi _ _ _ (f1 j (by simpa using hj3)), hvs j hj3]
        simpa using hj2)
      have := run_bytesToString (P := P) w ⟨b, q, none⟩ (xs.map (AV.int .u8)).length cap xs (by simpa using hl)
      exact this

theorem opMakeZ {t el s yb : Nat} {z : Value} {zv : AV} {l c : Operand} {k k' : IntKind} {m : Int} (ho : o.op = .makeSlice t l c) (ht : elemA P t = some el) (hs : sizeA P el = some s) (hb : bytesA P el = some yb) (hz : zeroA P el = some z)
    (hzv : zeroAs z.cells.toList (cells zv)) (hzs : z.cells.size = s) (hpos : 0 < s) (hl : ev e l = .int k m) (hc : ev e c = .int k' m) (h0 : 0 ≤ m) (hfit : (yb : Int) * m ≤ 281474976710656) (h63 : m ≤ 9223372036854775807)
    (h : ∀ v G, Own s G v (List.replicate m.toNat zv) → (∀ c x, H c = some x → G c = some x) → (∀ c ∈ rowB v, H c = none) → K v G) : Heavy P o e H K := by
  intro e' he B ι a w n hr hE next Q hk
  have g1 := hE.ev l
  have g2 := hE.ev c
  rw [he l (by simp [ho, Op.operands]), hl] at g1
  rw [he c (by simp [ho, Op.operands]), hc] at g2
  obtain ⟨i, hi, rfl, rfl, hiz⟩ := infoA hs hb hz
  unfold Oper.wp
  have hrun := run_make (P := P) w t el i z (elemA_spec ht) hi hiz k k' m m h0 (Int.le_refl _) hfit h63
  have : (execOp a.eval o).run P w = .ok (.value (.slice (some ⟨w.heap.size, 0, none⟩) m.toNat m.toNat)) (w.alloc (.cells (madeCells z.cells (m.toNat * i.size)) el)) := by
    simp [execOp, ho, g1.int_inv, g2.int_inv, hrun]
  rw [this]
  obtain ⟨hzl0, hzV⟩ := zeroAs.get (ι := ι) hzv
  have hzl : (cells zv).length = i.size := by rw [← hzs]; simpa using hzl0.symm
  have hx : ∀ x ∈ List.replicate m.toNat zv, (cells x).length = i.size := fun x hx => by rw [List.eq_of_mem_replicate hx]; exact hzl
  have hsz : (madeCells z.cells (m.toNat * i.size)).size = m.toNat * i.size := size_madeCells _ _
  by_cases hm : m.toNat = 0
  · rw [hm]
    refine hk (.slc w.heap.size 0 0 0) _ _ ι (H.set w.heap.size ⟨0, [], (madeCells z.cells (0 * i.size)).size, none⟩) (h _ _ (by simp only [hm, List.replicate_zero]; exact ⟨by simp, .inr (.inl ⟨_, _, rfl, rfl⟩)⟩) (fun c x hx => Heap.keep hr.fresh hx) (by simp [rowB])) (.slc _ _ _ _) (Imm.le_refl _)
      (hr.alloc _ el [] (by simp) (fun p h => by simp at h))
  · have hrow := Rel.row (s := i.size) hr (madeCells z.cells (m.toNat * i.size)) el (List.replicate m.toNat zv) m.toNat hx (by simp) hsz (by omega) (fun p hp => by
      have hp' : p < m.toNat * i.size := by rw [flat_length hx] at hp; simpa using hp
      rw [madeCells_get _ _ _ hp', hzs]
      have hmod : p % i.size < i.size := Nat.mod_lt _ hpos
      have hq : (flat (List.replicate m.toNat zv))[p]? = (cells zv)[p % i.size]? := by
        have hd := Nat.div_add_mod p i.size
        have hlt : p / i.size < m.toNat := Nat.div_lt_of_lt_mul (by rw [Nat.mul_comm]; exact hp')
        have := flat_get hx (p / i.size) zv (by simp [hlt]) (p % i.size) hmod
        rw [← this]; congr 1; rw [Nat.mul_comm]; exact hd.symm
      have hq2 : (flat (List.replicate m.toNat zv))[p] = (cells zv)[p % i.size]'(by omega) := by
        rw [List.getElem?_eq_getElem hp, List.getElem?_eq_getElem (by omega)] at hq
        exact Option.some.inj hq
      rw [hq2]
      have hc := hzV (p % i.size) (by omega) (by simp; omega)
      have he : z.cells.toList[p % i.size]'(by simp; omega) = z.cells[p % i.size]! := by
        rw [getElem!_pos _ _ (by omega)]; simp
      rw [he] at hc; exact hc)
    obtain ⟨hr2, hown⟩ := hrow
    simp only [List.length_replicate] at hown
    refine hk (.slc w.heap.size 0 m.toNat m.toNat) _ _ ι _ (h _ _ (by simpa using hown) (fun c x hx => Heap.keep hr.fresh hx) (fun c hc => ?_)) (.slc _ _ _ _) (Imm.le_refl _) hr2
    rw [rowB_mem hc]; exact hr.fresh
theorem hMkZ {L : List Res} (hS : Sep H L) {α : Type} {f : α → AV} {z0 : α} {zs : List α} {t el s yb : Nat} {z : Value} {l c : Operand} {k k' : IntKind} {m : Int} (hm : mk yb z0 m = some zs) (hw : 0 < yb) (ho : o.op = .makeSlice t l c) (ht : elemA P t = some el) (hs : sizeA P el = some s) (hb : bytesA P el = some yb) (hz : zeroA P el = some z)
    (hzv : zeroAs z.cells.toList (cells (f z0))) (hzs : z.cells.size = s) (hpos : 0 < s) (hl : ev e l = .int k m) (hc : ev e c = .int k' m) (h : ∀ v G, (∀ c x, H c = some x → G c = some x) → Sep G (.row s v (zs.map f) :: L) → K v G) : Heavy P o e H K := by
  obtain ⟨g1, g2, rfl⟩ := mkE hm
  refine opMakeZ ho ht hs hb hz hzv hzs hpos hl hc g1 g2 ?_ fun v G hO hk hn => h v G hk (hS.add (by rw [← replicate_map]; exact hO) hk hn)
  have : (1 : Int) * m ≤ (yb : Int) * m := Int.mul_le_mul_of_nonneg_right (by omega) g1
  omega
/-- A variable, its empty rows told as such. -/
theorem hNewZ {L : List Res} (hS : Sep H L) {t : Nat} {z : Value} (zs : List AV) (ho : o.op = .alloc t) (hz : zeroA P t = some z) (hzs : zeroAs z.cells.toList zs) (h : ∀ b G, (∀ c x, H c = some x → G c = some x) → Sep G (.cell b zs :: L) → K (.ptr b 0) G) : Heavy P o e H K := by
  intro e' he B ι a w n hr hE next Q hk
  unfold Oper.wp
  have : (execOp a.eval o).run P w = .ok (.value (.pointer (some ⟨w.heap.size, 0, none⟩))) (w.alloc (.cells z.cells t)) := by
    simp [execOp, ho, Instr.alloc, newVar, newRow, run_zero hz]
  rw [this]
  obtain ⟨h1, h2⟩ := zeroAs.get (ι := ι) hzs
  have hb := hr.fresh
  refine hk _ _ _ ι _ (h w.heap.size (H.set w.heap.size ⟨0, zs, z.cells.size, none⟩) (fun c x hc => Heap.keep hb hc) (hS.add (r := .cell w.heap.size zs) ⟨_, Heap.set_same _ _ _⟩ (fun c x hc => Heap.keep hb hc) (fun c hc => by rw [List.mem_singleton.mp hc]; exact hb))) (.ptr _ _) (Imm.le_refl _) ?_
  exact hr.alloc z.cells t zs (by simp at h1; omega) fun p hp => by
    have := h2 p hp (by simp at h1 ⊢; omega)
    rw [getD_lt _ _ (by simp at h1; omega)]
    simpa using this
/-- A literal of a struct, with empty rows told as such. -/
theorem opBuildZ {t : Nat} {parts : Array (Nat × Operand)} {pl : List (Nat × Nat)} {z : Value} {zs ys : List AV} (ho : o.op = .build t parts) (hp : planA P t = some pl) (hz : zeroA P t = some z) (hzs : zeroAs z.cells.toList zs)
    (hv : putAll zs pl (parts.toList.map fun p => (p.1, ev e p.2)) = some ys) : Light P o e H (.agg ys) [] :=
  Light.of_run fun ι ρ w hi hV => by
    have hpl : ∃ fs, P.underlying t = some (.struct fs) ∧ fs.toList.mapM (fun f => (sizeA P f.type).map fun s => (f.offset, s)) = some pl := by
      unfold planA at hp
      split at hp
      · rename_i fs h; exact ⟨fs, h, hp⟩
      · cases hp
    obtain ⟨fs, hu, hm⟩ := hpl
    have hrun : ∀ (l : List Field) (pl : List (Nat × Nat)), l.mapM (fun f => (sizeA P f.type).map fun s => (f.offset, s)) = some pl → (l.mapM fun f => do pure (f.offset, ← sizeOf f.type) : Sem (List (Nat × Nat))).run P w = .ok pl w := by
      intro l
      induction l with
      | nil => intro pl h; simp at h; subst h; rfl
      | cons f l ih =>
        intro pl h
        rw [List.mapM_cons] at h
        cases hs : sizeA P f.type with
        | none => rw [hs] at h; cases h
        | some s =>
          rw [hs] at h
          simp only [Option.map_some, Option.bind_eq_bind, Option.bind_some] at h
          cases hl : l.mapM (fun f => (sizeA P f.type).map fun s => (f.offset, s)) with
          | none => rw [hl] at h; cases h
          | some q =>
            rw [hl] at h
            simp at h
            subst h
            rw [List.mapM_cons]
            simp only [Sem.run_bind, run_sizeOf hs, Result.andThen_ok, Sem.run_pure, ih q hl]
    have hm' : (fs.mapM fun f => do pure (f.offset, ← sizeOf f.type) : Sem (Array (Nat × Nat))).run P w = .ok pl.toArray w := by
      rw [← Array.toArray_toList (xs := fs), List.mapM_toArray]
      simp only [Sem.run_map, hrun _ _ hm, Result.andThen_ok]
    obtain ⟨z1, z2⟩ := zeroAs.get (ι := ι) hzs
    obtain ⟨ds, d1, d2, d3⟩ := fill_V (ι := ι) (pl := pl) ((parts.map fun (i, x) => (i, ρ x)).toList) (parts.toList.map fun p => (p.1, ev e p.2)) z.cells zs ys (by simp [Function.comp_def]) (fun p h h' => by
      have hp' : p < parts.size := by simpa using h
      simp only [List.getElem_map, Array.toList_map, Array.getElem_toList]
      exact hV _ (by
        rw [ho]
        show _ ∈ (parts.toList.map (·.2)).toArray
        simp only [List.mem_toArray, List.mem_map]
        exact ⟨parts[p], by simp, rfl⟩)) (by simpa using z1) (fun p hp => by
          have := z2 p hp (by rw [z1]; exact hp)
          rw [getD_lt _ _ (by simp at z1; omega)]
          simpa using this) hv
    refine ⟨.agg ds, ?_, .agg ds d2 d3⟩
    have hg : (fun i : Nat => (pl.toArray)[i]?) = (fun i : Nat => pl[i]?) := by funext i; simp
    simp only [execOp, ho, Instr.build, Sem.run_bind, run_zero hz, Result.andThen_ok, run_underlying hu, hm', hg]
    have d1' : Instr.fill (fun i : Nat => pl[i]?) z.cells (List.map (fun x => (x.fst, ρ x.snd)) parts.toList) = some ds := by rw [← d1, Array.toList_map]
    simp
    rw [d1']
    rfl
/-- A text cut out of a text. -/
theorem opCutS {t : Nat} {x : Operand} {lo hi : Option Operand} {s u : ByteArray} {l h : Int} (hc : cuts s l h = some u) (ho : o.op = .slice t x lo hi none) (ht : P.underlying t = some .string) (hx : ev e x = .str s)
    (hl : (lo = none ∧ l = 0) ∨ ∃ y k, lo = some y ∧ ev e y = .int k l) (hh : (hi = none ∧ h = s.size) ∨ ∃ y k, hi = some y ∧ ev e y = .int k h) : Light P o e H (.str u) [] :=
  Light.of_run fun ι ρ w hi' hV => by
    obtain ⟨c1, c2, c3, rfl⟩ := cutsE hc
    have h1 := hV x (by simp [ho, Op.operands]); rw [hx] at h1
    refine ⟨.string (s.extract l.toNat h.toNat), ?_, .str _⟩
    have c4 : l ≤ s.size := by omega
    have hnat : (h.toNat : Int) = h := by omega
    rcases hl with ⟨rfl, rfl⟩ | ⟨y, k, rfl, hy⟩ <;> rcases hh with ⟨rfl, rfl⟩ | ⟨y2, k2, rfl, hy2⟩
    · simp [execOp, ho, h1.str_inv, Instr.sliceAt, Instr.slice, run_underlying ht, Instr.sliceBounds]
    · have g2 := hV y2 (by simp [ho, Op.operands]); rw [hy2] at g2
      simp [execOp, ho, h1.str_inv, Instr.sliceAt, Instr.slice, run_underlying ht, Instr.sliceBounds, Instr.sliceBound, g2.int_inv, asIntOf, c2, c3]
    · have g1 := hV y (by simp [ho, Op.operands]); rw [hy] at g1
      simp [execOp, ho, h1.str_inv, Instr.sliceAt, Instr.slice, run_underlying ht, Instr.sliceBounds, Instr.sliceBound, g1.int_inv, asIntOf, c1, c4]
    · have g1 := hV y (by simp [ho, Op.operands]); rw [hy] at g1
      have g2 := hV y2 (by simp [ho, Op.operands]); rw [hy2] at g2
      have c5 : 0 ≤ h := by omega
      have c6 : ¬ max h 0 < l := by omega
      simp [execOp, ho, h1.str_inv, Instr.sliceAt, Instr.slice, run_underlying ht, Instr.sliceBounds, Instr.sliceBound, g1.int_inv, g2.int_inv, asIntOf, c1, c3, c5, c6]
/-- A row that nobody writes, cut. -/
theorem opCutL {α : Type} {f : α → AV} {t el s : Nat} {x : Operand} {lo hi mx : Option Operand} {xs ys : List α} {l h : Int} (hc : cut xs l h = some ys) (ho : o.op = .slice t x lo hi mx) (ht : elemA P t = some el) (hs : sizeA P el = some s) (hx : ev e x = .list s (xs.map f))
    (hl : (lo = none ∧ l = 0) ∨ ∃ y k, lo = some y ∧ ev e y = .int k l) (hh : (hi = none ∧ h = xs.length ∧ mx = none) ∨ ∃ y k, hi = some y ∧ ev e y = .int k h ∧ (mx = none ∨ ∃ y' k', mx = some y' ∧ ev e y' = .int k' h)) : Light P o e H (.list s (ys.map f)) [] :=
  Light.of_run fun ι ρ w hi' hV => by
    obtain ⟨c1, c2, c3, rfl⟩ := cutE hc
    have h1 := hV x (by simp [ho, Op.operands]); rw [hx] at h1
    have hu := elemA_spec ht
    -- the bounds
    have bnds : ∀ (a : Option Addr) (cap : Nat), xs.length ≤ cap → ρ x = .slice a xs.length cap → ∃ m : Nat, h.toNat ≤ m ∧ (execOp ρ o).run P w = .ok (.value (.slice (if m = l.toNat then a else a.map (·.add (l.toNat * s))) (h.toNat - l.toNat) (m - l.toNat))) w := by
      intro a cap hcap hv
      have k1 : ∀ (y : Operand) (k : IntKind), lo = some y → ev e y = .int k l → ρ y = .int k l := fun y k hy he => by
        have := hV y (by simp [ho, Op.operands, hy]); rw [he] at this; exact this.int_inv
      have k2 : ∀ (y : Operand) (k : IntKind), hi = some y → ev e y = .int k h → ρ y = .int k h := fun y k hy he => by
        have := hV y (by simp [ho, Op.operands, hy]); rw [he] at this; exact this.int_inv
      have k3 : ∀ (y : Operand) (k : IntKind), mx = some y → ev e y = .int k h → ρ y = .int k h := fun y k hy he => by
        have := hV y (by simp [ho, Op.operands, hy]); rw [he] at this; exact this.int_inv
      have c4 : 0 ≤ h := by omega
      have c5 : h ≤ cap := by omega
      have c6 : l ≤ h.toNat := by omega
      have c7 : l ≤ (xs.length : Int) := by omega
      have c8 : h ≤ h.toNat := by omega
      have c9 : ¬ max h 0 < l := by omega
      have c10 : max h 0 = h := by omega
      have c11 : ¬ h < l := by omega
      rcases hh with ⟨rfl, e2, rfl⟩ | ⟨y2, q2, rfl, e2, rfl | ⟨y3, q3, rfl, e3⟩⟩
      · refine ⟨cap, by omega, ?_⟩
        subst e2
        rcases hl with ⟨rfl, rfl⟩ | ⟨y, q, rfl, e1⟩
        · simp [execOp, ho, hv, Instr.sliceAt, Instr.slice, run_underlying hu, Instr.sliceBounds, run_sizeOf hs]
        · simp [execOp, ho, hv, Instr.sliceAt, Instr.slice, run_underlying hu, Instr.sliceBounds, Instr.sliceBound, k1 y q rfl e1, asIntOf, c1, c7, run_sizeOf hs]
      · refine ⟨cap, by omega, ?_⟩
        rcases hl with ⟨rfl, rfl⟩ | ⟨y, q, rfl, e1⟩
        · simp [execOp, ho, hv, Instr.sliceAt, Instr.slice, run_underlying hu, Instr.sliceBounds, Instr.sliceBound, k2 y2 q2 rfl e2, asIntOf, c4, c5, run_sizeOf hs]
        · simp [execOp, ho, hv, Instr.sliceAt, Instr.slice, run_underlying hu, Instr.sliceBounds, Instr.sliceBound, k1 y q rfl e1, k2 y2 q2 rfl e2, asIntOf, c1, c4, c5, c9, run_sizeOf hs]
      · refine ⟨h.toNat, by omega, ?_⟩
        rcases hl with ⟨rfl, rfl⟩ | ⟨y, q, rfl, e1⟩
        · simp [execOp, ho, hv, Instr.sliceAt, Instr.slice, run_underlying hu, Instr.sliceBounds, Instr.sliceBound, k2 y2 q2 rfl e2, k3 y3 q3 rfl e3, asIntOf, c4, c5, c10, run_sizeOf hs]
        · simp [execOp, ho, hv, Instr.sliceAt, Instr.slice, run_underlying hu, Instr.sliceBounds, Instr.sliceBound, k1 y q rfl e1, k2 y2 q2 rfl e2, k3 y3 q3 rfl e3, asIntOf, c1, c4, c5, c9, c10, c11, run_sizeOf hs]
    have hyl : ((xs.drop l.toNat).take (h - l).toNat).length = h.toNat - l.toNat := by simp; omega
    rcases h1.list_inv with ⟨h0, a, c, hv⟩ | ⟨b, q, cap, vs, hv, hss, hcap, f1, f2⟩
    · have : xs = [] := by simpa using h0
      subst this
      obtain ⟨m, m1, m2⟩ := bnds a c (by simp) hv
      refine ⟨_, m2, ?_⟩
      have : h.toNat - l.toNat = 0 := by simp at c3; omega
      rw [this]; simp; exact .listNil _ _ _
    · simp only [List.length_map] at hv hcap
      obtain ⟨m, m1, m2⟩ := bnds _ cap hcap hv
      refine ⟨_, m2, ?_⟩
      by_cases hz : h.toNat - l.toNat = 0
      · have : (xs.drop l.toNat).take (h - l).toNat = [] := List.eq_nil_of_length_eq_zero (by rw [hyl]; exact hz)
        rw [this, hz]; exact .listNil _ _ _
      · rw [if_neg (by omega)]
        have hss' : ∀ y ∈ ((xs.drop l.toNat).take (h - l).toNat).map f, (cells y).length = s := fun y hy => by
          obtain ⟨a, ha, rfl⟩ := List.mem_map.mp hy
          exact hss _ (List.mem_map.mpr ⟨a, List.mem_of_mem_drop (List.mem_of_mem_take ha), rfl⟩)
        have hsplit : xs = xs.take l.toNat ++ ((xs.drop l.toNat).take (h - l).toNat ++ (xs.drop l.toNat).drop (h - l).toNat) := by rw [List.take_append_drop, List.take_append_drop]
        have hA : ∀ y ∈ (xs.take l.toNat).map f, (cells y).length = s := fun y hy => by
          obtain ⟨a, ha, rfl⟩ := List.mem_map.mp hy
          exact hss _ (List.mem_map.mpr ⟨a, List.mem_of_mem_take ha, rfl⟩)
        have hlA : (flat ((xs.take l.toNat).map f)).length = l.toNat * s := by rw [flat_length hA, List.length_map, List.length_take, Nat.min_eq_left (by omega)]
        have hfl : flat (xs.map f) = flat ((xs.take l.toNat).map f) ++ (flat (((xs.drop l.toNat).take (h - l).toNat).map f) ++ flat (((xs.drop l.toNat).drop (h - l).toNat).map f)) := by
          rw [← flat_append, ← flat_append, ← List.map_append, ← List.map_append, ← hsplit]
        have hpos : ∀ p, p < (flat (((xs.drop l.toNat).take (h - l).toNat).map f)).length → l.toNat * s + p < (flat (xs.map f)).length := fun p hp => by
          rw [hfl]; simp only [List.length_append]; omega
        show V ι _ (.slice (some ((⟨b, q, none⟩ : Addr).add (l.toNat * s))) _ _)
        rw [Addr_add, show h.toNat - l.toNat = (((xs.drop l.toNat).take (h - l).toNat).map f).length by rw [List.length_map, hyl]]
        refine .list (fun p => vs (l.toNat * s + p)) hss' (by rw [List.length_map, hyl]; omega) (fun p hp => by rw [Nat.add_assoc]; exact f1 _ (hpos p hp)) fun p hp => ?_
        have := f2 _ (hpos p hp)
        have he : (flat (xs.map f))[l.toNat * s + p]'(hpos p hp) = (flat (((xs.drop l.toNat).take (h - l).toNat).map f))[p] := by
          have h2 : (flat (xs.map f))[l.toNat * s + p]? = (flat (((xs.drop l.toNat).take (h - l).toNat).map f))[p]? := by
            rw [hfl, List.getElem?_append_right (by omega), List.getElem?_append_left (by omega), show l.toNat * s + p - (flat ((xs.take l.toNat).map f)).length = p by omega]
          rw [List.getElem?_eq_getElem (hpos p hp), List.getElem?_eq_getElem hp] at h2
          exact Option.some.inj h2
        rw [he] at this
        exact this
/-- A part of what is owned is told, the rest given up. -/
theorem Rel.part {B : Base} {ι : Imm} {H : Heap} {w : World} (hr : Rel B ι H w) {b lo hi : Nat} {cs pre mid post : List AV} (hb : H b = some ⟨lo, cs, hi, none⟩) (hc : cs = pre ++ (mid ++ post)) : Rel B ι (H.set b ⟨lo + pre.length, mid, hi, none⟩) w := by
  have h0 := hr.lo b _ hb
  simp only [hc, List.length_append] at h0
  refine ⟨hr.below, hr.size, hr.imm, hr.iold, fun c x hx => ?_, fun c x hx p hp => ?_, fun c x hx => ?_, fun c x hx q hq => (by
    by_cases hc : c = b
    · subst hc; rw [Heap.set_same] at hx; cases hx; cases hq
    · rw [Heap.set_ne _ _ hc] at hx; exact hr.obj c x hx q hq)⟩
  · by_cases e : c = b
    · subst e; rw [Heap.set_same] at hx; cases hx; exact ⟨h0.1, h0.2.1, by simp only; omega⟩
    · rw [Heap.set_ne _ _ e] at hx; exact hr.lo c x hx
  · by_cases e : c = b
    · subst e; rw [Heap.set_same] at hx; cases hx
      simp only at hp ⊢
      have hp' : pre.length + p < cs.length := by rw [hc]; simp; omega
      obtain ⟨v, g1, g2⟩ := hr.cell c _ hb (pre.length + p) hp'
      refine ⟨v, by rw [Nat.add_assoc]; exact g1, ?_⟩
      have : cs[pre.length + p]'hp' = mid[p] := by
        subst hc
        rw [List.getElem_append_right (by omega)]
        simp only [Nat.add_sub_cancel_left]
        rw [List.getElem_append_left hp]
      rw [← this]; exact g2
    · rw [Heap.set_ne _ _ e] at hx; exact hr.cell c x hx p hp
  · by_cases e : c = b
    · subst e; rw [Heap.set_same] at hx; cases hx
      exact fun o h1 h2 => hr.room c _ hb o (by simp only at h1 ⊢; omega) h2
    · rw [Heap.set_ne _ _ e] at hx; exact hr.room c x hx
/-- A row that is owned, cut. -/
theorem hCutO {α : Type} {f : α → AV} {L : List Res} (hS : Sep H L) {j t el s : Nat} {x : Operand} {lo hi mx : Option Operand} {zs ys : List α} {l h : Int} {v : AV} (hk : L[j]? = some (.row s v (zs.map f))) (hc : cut zs l h = some ys) (ho : o.op = .slice t x lo hi mx) (ht : elemA P t = some el) (hs : sizeA P el = some s) (hx : ev e x = v)
    (hl : (lo = none ∧ l = 0) ∨ ∃ y k, lo = some y ∧ ev e y = .int k l) (hh : (hi = none ∧ h = zs.length ∧ mx = none) ∨ ∃ y k, hi = some y ∧ ev e y = .int k h ∧ (mx = none ∨ ∃ y' k', mx = some y' ∧ ev e y' = .int k' h))
    (k : ∀ v' G, Sep G (L.set j (.row s v' (ys.map f))) → K v' G) : Heavy P o e H K := by
  intro e' he B ι a w n hr hE next Q hnext
  obtain ⟨c1, c2, c3, rfl⟩ := cutE hc
  have hop : ∀ y, y ∈ o.op.operands → V ι (ev e y) (a.eval y) := fun y hy => by rw [← he y hy]; exact hE.ev y
  have hu := elemA_spec ht
  have hv := hop x (by simp [ho, Op.operands])
  rw [hx] at hv
  have bnds : ∀ (ad : Option Addr) (cap : Nat), zs.length ≤ cap → a.eval x = .slice ad zs.length cap → ∃ m : Nat, h.toNat ≤ m ∧ m ≤ cap ∧ (execOp a.eval o).run P w = .ok (.value (.slice (if m = l.toNat then ad else ad.map (·.add (l.toNat * s))) (h.toNat - l.toNat) (m - l.toNat))) w := by
    intro ad cap hcap hv
    have k1 : ∀ (y : Operand) (k : IntKind), lo = some y → ev e y = .int k l → a.eval y = .int k l := fun y k hy he => by
      have := hop y (by simp [ho, Op.operands, hy]); rw [he] at this; exact this.int_inv
    have k2 : ∀ (y : Operand) (k : IntKind), hi = some y → ev e y = .int k h → a.eval y = .int k h := fun y k hy he => by
      have := hop y (by simp [ho, Op.operands, hy]); rw [he] at this; exact this.int_inv
    have k3 : ∀ (y : Operand) (k : IntKind), mx = some y → ev e y = .int k h → a.eval y = .int k h := fun y k hy he => by
      have := hop y (by simp [ho, Op.operands, hy]); rw [he] at this; exact this.int_inv
    have c4 : 0 ≤ h := by omega
    have c5 : h ≤ cap := by omega
    have c7 : l ≤ (zs.length : Int) := by omega
    have c8 : h ≤ h.toNat := by omega
    have c9 : ¬ max h 0 < l := by omega
    have c10 : max h 0 = h := by omega
    have c11 : ¬ h < l := by omega
    rcases hh with ⟨rfl, e2, rfl⟩ | ⟨y2, q2, rfl, e2, rfl | ⟨y3, q3, rfl, e3⟩⟩
    · refine ⟨cap, by omega, by omega, ?_⟩
      subst e2
      rcases hl with ⟨rfl, rfl⟩ | ⟨y, q, rfl, e1⟩
      · simp [execOp, ho, hv, Instr.sliceAt, Instr.slice, run_underlying hu, Instr.sliceBounds, run_sizeOf hs]
      · simp [execOp, ho, hv, Instr.sliceAt, Instr.slice, run_underlying hu, Instr.sliceBounds, Instr.sliceBound, k1 y q rfl e1, asIntOf, c1, c7, run_sizeOf hs]
    · refine ⟨cap, by omega, by omega, ?_⟩
      rcases hl with ⟨rfl, rfl⟩ | ⟨y, q, rfl, e1⟩
      · simp [execOp, ho, hv, Instr.sliceAt, Instr.slice, run_underlying hu, Instr.sliceBounds, Instr.sliceBound, k2 y2 q2 rfl e2, asIntOf, c4, c5, run_sizeOf hs]
      · simp [execOp, ho, hv, Instr.sliceAt, Instr.slice, run_underlying hu, Instr.sliceBounds, Instr.sliceBound, k1 y q rfl e1, k2 y2 q2 rfl e2, asIntOf, c1, c4, c5, c9, run_sizeOf hs]
    · refine ⟨h.toNat, by omega, by omega, ?_⟩
      rcases hl with ⟨rfl, rfl⟩ | ⟨y, q, rfl, e1⟩
      · simp [execOp, ho, hv, Instr.sliceAt, Instr.slice, run_underlying hu, Instr.sliceBounds, Instr.sliceBound, k2 y2 q2 rfl e2, k3 y3 q3 rfl e3, asIntOf, c4, c5, c10, run_sizeOf hs]
      · simp [execOp, ho, hv, Instr.sliceAt, Instr.slice, run_underlying hu, Instr.sliceBounds, Instr.sliceBound, k1 y q rfl e1, k2 y2 q2 rfl e2, k3 y3 q3 rfl e3, asIntOf, c1, c4, c5, c9, c10, c11, run_sizeOf hs]
  have hyl : ((zs.drop l.toNat).take (h - l).toNat).length = h.toNat - l.toNat := by simp; omega
  have hO : Own s H v (zs.map f) := hS.get hk
  obtain ⟨hss, hO⟩ := hO
  have hss' : ∀ y ∈ ((zs.drop l.toNat).take (h - l).toNat).map f, (cells y).length = s := fun y hy => by
    obtain ⟨a, ha, rfl⟩ := List.mem_map.mp hy
    exact hss _ (List.mem_map.mpr ⟨a, List.mem_of_mem_drop (List.mem_of_mem_take ha), rfl⟩)
  unfold Oper.wp
  rcases hO with ⟨rfl, h0⟩ | ⟨b, q, rfl, h0⟩ | ⟨b, q, cap, hi', rfl, g1, g2, g3, g4⟩
  · have : zs = [] := by simpa using h0
    subst this
    obtain ⟨m, m1, m2, m3⟩ := bnds none 0 (by simp) hv.nil_inv
    rw [m3]
    have e1 : h.toNat - l.toNat = 0 := by simp at c3; omega
    have e2 : m - l.toNat = 0 := by omega
    refine hnext .nil _ w ι H (k .nil H (hS.upd hk (r' := .row s .nil _) ?_ (fun c x _ hx => hx) (fun c hc => by simp [Res.blks, rowB] at hc))) ?_ (Imm.le_refl _) hr
    · have : ((([] : List α).drop l.toNat).take (h - l).toNat).map f = [] := by simp
      rw [this]; exact Own.nil s H
    · rw [e1, e2]; simp; exact .nil
  · have : zs = [] := by simpa using h0
    subst this
    obtain ⟨m, m1, m2, m3⟩ := bnds _ 0 (by simp) hv.slc_inv
    rw [m3]
    have e1 : h.toNat - l.toNat = 0 := by simp at c3; omega
    have e2 : m - l.toNat = 0 := by omega
    have e3 : m = l.toNat := by omega
    refine hnext (.slc b q 0 0) _ w ι H (k _ H (hS.upd hk (r' := .row s (.slc b q 0 0) _) ?_ (fun c x _ hx => hx) (fun c hc => by simp [Res.blks, rowB] at hc))) ?_ (Imm.le_refl _) hr
    · have : ((([] : List α).drop l.toNat).take (h - l).toNat).map f = [] := by simp
      rw [this]; exact ⟨by simp, .inr (.inl ⟨b, q, rfl, rfl⟩)⟩
    · rw [e1, e2, if_pos e3]; exact .slc _ _ _ _
  · simp only [List.length_map] at g3 hv
    obtain ⟨m, m1, m2, m3⟩ := bnds _ cap g3 hv.slc_inv
    rw [m3]
    by_cases e3 : m = l.toNat
    · have e1 : h.toNat - l.toNat = 0 := by omega
      have e2 : m - l.toNat = 0 := by omega
      have : (zs.drop l.toNat).take (h - l).toNat = [] := List.eq_nil_of_length_eq_zero (by rw [hyl]; exact e1)
      rw [this] at k
      rw [e1, e2, if_pos e3]
      refine hnext (.slc b q 0 0) _ w ι H (k _ H (hS.upd hk (r' := .row s (.slc b q 0 0) _) ⟨by simp, .inr (.inl ⟨b, q, rfl, rfl⟩)⟩ (fun c x _ hx => hx) (fun c hc => by simp [Res.blks, rowB] at hc))) (.slc _ _ _ _) (Imm.le_refl _) hr
    · rw [if_neg e3]
      have hsplit : zs = zs.take l.toNat ++ ((zs.drop l.toNat).take (h - l).toNat ++ (zs.drop l.toNat).drop (h - l).toNat) := by rw [List.take_append_drop, List.take_append_drop]
      have hA : ∀ y ∈ (zs.take l.toNat).map f, (cells y).length = s := fun y hy => by
        obtain ⟨a, ha, rfl⟩ := List.mem_map.mp hy
        exact hss _ (List.mem_map.mpr ⟨a, List.mem_of_mem_take ha, rfl⟩)
      have hlA : (flat ((zs.take l.toNat).map f)).length = l.toNat * s := by rw [flat_length hA, List.length_map, List.length_take, Nat.min_eq_left (by omega)]
      have hfl : flat (zs.map f) = flat ((zs.take l.toNat).map f) ++ (flat (((zs.drop l.toNat).take (h - l).toNat).map f) ++ flat (((zs.drop l.toNat).drop (h - l).toNat).map f)) := by
        rw [← flat_append, ← flat_append, ← List.map_append, ← List.map_append, ← hsplit]
      have hr' := hr.part g1 hfl
      rw [hlA] at hr'
      have hsz : (((zs.drop l.toNat).take (h - l).toNat).map f).length = h.toNat - l.toNat := by rw [List.length_map, hyl]
      have hms : q + l.toNat * s + (m - l.toNat) * s ≤ hi' := by
        have h1 : m * s ≤ cap * s := Nat.mul_le_mul_right _ m2
        have h2 : l.toNat * s + (m - l.toNat) * s = m * s := by rw [← Nat.add_mul]; congr 1; omega
        omega
      refine hnext (.slc b (q + l.toNat * s) (h.toNat - l.toNat) (m - l.toNat)) _ w ι _ (k _ _ (hS.upd hk (r' := .row s (.slc b (q + l.toNat * s) (h.toNat - l.toNat) (m - l.toNat)) _) ⟨hss', .inr (.inr ⟨b, _, _, hi', by rw [hsz], Heap.set_same _ _ _, hms, by rw [hsz]; omega, by omega⟩)⟩ (fun c x hc hx => ?_) (fun c hc => ?_))) ?_ (Imm.le_refl _) hr'
      · rw [Heap.set_ne]
        · exact hx
        · intro e; subst e; exact hc (by simp [Res.blks, rowB]; omega)
      · have := rowB_mem (by simpa [Res.blks] using hc); subst this
        left; simp [Res.blks, rowB]; omega
      · show V ι _ (.slice (some ((⟨b, q, none⟩ : Addr).add (l.toNat * s))) _ _)
        rw [Addr_add]; exact .slc _ _ _ _
end
end Go.Proofs.Ythdoebgikbfndaa.E
