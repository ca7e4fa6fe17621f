/- More operations: bytes to text, zero structs that hold rows, structs held against each other, cuts. -/
import Derived.Test.YthdoebgikbfndaaF2
import Derived.Laws.BytesString
import Derived.Laws.StructEq
namespace Go.Proofs.Ythdoebgikbfndaa.E
open Go Go.RowKit
set_option linter.unusedVariables false

def bstr (xs : List Int) : ByteArray := xs.foldl (fun r n => r.push (UInt8.ofNat n.toNat)) ByteArray.empty
/-- Zero values, told with rows that are empty. -/
def zeroAs : List Value → List AV → Prop
  | [], [] => True
  | v :: vs, a :: as => (avOf v = a ∨ ∃ s, v = .slice none 0 0 ∧ a = .list s []) ∧ zeroAs vs as
  | _, _ => False
theorem zeroAs.get {ι : Imm} : ∀ {vs : List Value} {as : List AV}, zeroAs vs as → vs.length = as.length ∧ ∀ p (h : p < as.length) (h' : p < vs.length), V ι (as[p]) (vs[p])
  | [], [], _ => ⟨rfl, fun p h => by simp at h⟩
  | [], _ :: _, h => h.elim
  | _ :: _, [], h => h.elim
  | v :: vs, a :: as, ⟨h, k⟩ => by
    obtain ⟨i1, i2⟩ := zeroAs.get (ι := ι) k
    refine ⟨by simp [i1], fun p hp hp' => ?_⟩
    cases p with
    | zero =>
      rcases h with rfl | ⟨s, rfl, rfl⟩
      · exact avOf_V ι v
      · exact .listNil _ _ _
    | succ p => exact i2 p (by simpa using hp) (by simpa using hp')
def cut {α : Type} (xs : List α) (l h : Int) : Option (List α) := if 0 ≤ l ∧ l ≤ h ∧ h ≤ xs.length then some ((xs.drop l.toNat).take (h - l).toNat) else none
def cuts (s : ByteArray) (l h : Int) : Option ByteArray := if 0 ≤ l ∧ l ≤ h ∧ h ≤ s.size then some (s.extract l.toNat h.toNat) else none
section
variable {P : Program} {o : Oper} {e : Env} {H : Heap} {K : AV → Heap → Prop}
/-- A variable, its empty rows told as such. -/
theorem hNewZ {L : List Res} (hS : Sep H L) {t : Nat} {z : Value} (zs : List AV) (ho : o.op = .alloc t) (hz : zeroA P t = some z) (hzs : zeroAs z.cells.toList zs) (h : ∀ b G, (∀ c x, H c = some x → G c = some x) → Sep G (.cell b zs :: L) → K (.ptr b 0) G) : Heavy P o e H K := by
  intro e' he B ι a w n hr hE next Q hk
  unfold Oper.wp
  have : (execOp a.eval o).run P w = .ok (.value (.pointer (some ⟨w.heap.size, 0, none⟩))) (w.alloc (.cells z.cells t)) := by
    simp [execOp, ho, Instr.alloc, newVar, newRow, run_zero hz]
  rw [this]
  obtain ⟨h1, h2⟩ := zeroAs.get (ι := ι) hzs
  have hb := hr.fresh
  refine hk _ _ _ ι _ (h w.heap.size (H.set w.heap.size ⟨0, zs, z.cells.size, none⟩) (fun c x hc => Heap.keep hb hc) (hS.add (r := .cell w.heap.size zs) ⟨_, Heap.set_same _ _ _⟩ (fun c x hc => Heap.keep hb hc) (fun c hc => by rw [List.mem_singleton.mp hc]; exact hb))) (.ptr _ _) (Imm.le_refl _) ?_
  exact hr.alloc z.cells t zs (by simp at h1; omega) fun p hp => by
    have := h2 p hp (by simp at h1 ⊢; omega)
    rw [getD_lt _ _ (by simp at h1; omega)]
    simpa using this
/-- A literal of a struct, with empty rows told as such. -/
theorem opBuildZ {t : Nat} {parts : Array (Nat × Operand)} {pl : List (Nat × Nat)} {z : Value} {zs ys : List AV} (ho : o.op = .build t parts) (hp : planA P t = some pl) (hz : zeroA P t = some z) (hzs : zeroAs z.cells.toList zs)
    (hv : putAll zs pl (parts.toList.map fun p => (p.1, ev e p.2)) = some ys) : Light P o e H (.agg ys) [] :=
  Light.of_run fun ι ρ w hi hV => by
    have hpl : ∃ fs, P.underlying t = some (.struct fs) ∧ fs.toList.mapM (fun f => (sizeA P f.type).map fun s => (f.offset, s)) = some pl := by
      unfold planA at hp
      split at hp
      · rename_i fs h; exact ⟨fs, h, hp⟩
      · cases hp
    obtain ⟨fs, hu, hm⟩ := hpl
    have hrun : ∀ (l : List Field) (pl : List (Nat × Nat)), l.mapM (fun f => (sizeA P f.type).map fun s => (f.offset, s)) = some pl → (l.mapM fun f => do pure (f.offset, ← sizeOf f.type) : Sem (List (Nat × Nat))).run P w = .ok pl w := by
      intro l
      induction l with
      | nil => intro pl h; simp at h; subst h; rfl
      | cons f l ih =>
        intro pl h
        rw [List.mapM_cons] at h
        cases hs : sizeA P f.type with
        | none => rw [hs] at h; cases h
        | some s =>
          rw [hs] at h
          simp only [Option.map_some, Option.bind_eq_bind, Option.bind_some] at h
          cases hl : l.mapM (fun f => (sizeA P f.type).map fun s => (f.offset, s)) with
          | none => rw [hl] at h; cases h
          | some q =>
            rw [hl] at h
            simp at h
            subst h
            rw [List.mapM_cons]
            simp only [Sem.run_bind, run_sizeOf hs, Result.andThen_ok, Sem.run_pure, ih q hl]
    have hm' : (fs.mapM fun f => do pure (f.offset, ← sizeOf f.type) : Sem (Array (Nat × Nat))).run P w = .ok pl.toArray w := by
      rw [← Array.toArray_toList (xs := fs), List.mapM_toArray]
      simp only [Sem.run_map, hrun _ _ hm, Result.andThen_ok]
    obtain ⟨z1, z2⟩ := zeroAs.get (ι := ι) hzs
    obtain ⟨ds, d1, d2, d3⟩ := fill_V (ι := ι) (pl := pl) ((parts.map fun (i, x) => (i, ρ x)).toList) (parts.toList.map fun p => (p.1, ev e p.2)) z.cells zs ys (by simp [Function.comp_def]) (fun p h h' => by
      have hp' : p < parts.size := by simpa using h
      simp only [List.getElem_map, Array.toList_map, Array.getElem_toList]
      exact hV _ (by
        rw [ho]
        show _ ∈ (parts.toList.map (·.2)).toArray
        simp only [List.mem_toArray, List.mem_map]
        exact ⟨parts[p], by simp, rfl⟩)) (by simpa using z1) (fun p hp => by
          have := z2 p hp (by rw [z1]; exact hp)
          rw [getD_lt _ _ (by simp at z1; omega)]
          simpa using this) hv
    refine ⟨.agg ds, ?_, .agg ds d2 d3⟩
    have hg : (fun i : Nat => (pl.toArray)[i]?) = (fun i : Nat => pl[i]?) := by funext i; simp
    simp only [execOp, ho, Instr.build, Sem.run_bind, run_zero hz, Result.andThen_ok, run_underlying hu, hm', hg]
    have d1' : Instr.fill (fun i : Nat => pl[i]?) z.cells (List.map (fun x => (x.fst, ρ x.snd)) parts.toList) = some ds := by rw [← d1, Array.toList_map]
    simp
    rw [d1']
    rfl
end
end Go.Proofs.Ythdoebgikbfndaa.E
