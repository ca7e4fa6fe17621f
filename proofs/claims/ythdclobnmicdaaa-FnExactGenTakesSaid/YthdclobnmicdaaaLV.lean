/- The walk of graph.lives: its maps told by the steps that count, and as things that are owned. -/
import Derived.Test.YthdclobnmicdaaaF9
import Derived.Maps.Views
import Derived.Test.YthdclobnmicdaaaDGenTakes
namespace Go.Proofs.Ythdclobnmicdaaa.E
open Go Go.RowKit Go.Maps
set_option linter.unusedVariables false
section
variable {P : Program} {o : Oper} {e : Env} {H : Heap} {K : AV → Heap → Prop} {L : List Res}
theorem hMakeM {t kt et : TypeId} (hS : Sep H L) (ho : o.op = .makeMap t none) (k : ∀ r G, Sep G (.snap [(r, mapB P kt et 0 (.map []))] :: L) → K (.mapp r) G) : Heavy P o e H K :=
  opMakeMap ho fun r hr => k r _ (hS.add (r := .snap [(r, mapB P kt et 0 (.map []))]) (fun q hq => by rw [List.mem_singleton.mp hq]; exact Heap.set_same _ _ _) (fun c x hc => Heap.keep hr hc) (fun c hc => by
    have : c = r := by simpa [Res.blks] using hc
    rw [this]; exact hr))
theorem snap_get {r : Nat} {b : Blk} {j : Nat} (hS : Sep H L) (hk : L[j]? = some (.snap [(r, b)])) : H r = some b := (hS.get hk) (r, b) List.mem_cons_self
theorem hPutM {t kt et : TypeId} {x y z : Operand} {r n j : Nat} {key val : Int} {D : DataW Unit} (hS : Sep H L) (hk : L[j]? = some (.snap [(r, mapB P kt et n D)])) (ho : o.op = .mapUpdate t x y z) (ht : P.underlying t = some (.map kt et)) (hkt : P.underlying kt = some (.int .i64)) (het : P.underlying et = some (.int .i64))
    (hx : ev e x = .mapp r) (hy : ev e y = .int .i64 key) (hzv : ev e z = .int .i64 val) (hw : (Lit.int .i64 key).wf = true) (hv : (Lit.int .i64 val).wf = true) (hn : n < maxLen)
    (k : ∀ G, Sep G (L.set j (.snap [(r, mapB P kt et (n + 1) (D.put (.int .i64 key) (.lit (.int .i64 val))))])) → K .undef G) : Heavy P o e H K :=
  opMapUpdateM ho ht hkt het hx hy hzv hw hv hn (snap_get hS hk) (k _ (hS.upd hk (r' := .snap [(r, mapB P kt et (n + 1) (D.put (.int .i64 key) (.lit (.int .i64 val))))]) (fun q hq => by rw [List.mem_singleton.mp hq]; exact Heap.set_same _ _ _) (fun c x hc hx => by
    have : c ≠ r := by simpa [Res.blks] using hc
    rw [Heap.set_ne _ _ this]; exact hx) (fun c hc => .inl (by simpa [Res.blks] using hc))))
theorem hRangeM {t kt et : TypeId} {x : Operand} {b n j : Nat} {D : DataW Unit} (hS : Sep H L) (hk : L[j]? = some (.snap [(b, mapB P kt et n D)])) (ho : o.op = .range t x) (ht : P.underlying t = some (.map kt et)) (hkt : P.underlying kt = some (.int .i64)) (hx : ev e x = .mapp b)
    (k : ∀ r es clock since seen c0 G, RgF P kt et b n D (Maps.has D) (Maps.size D) es clock since seen c0 → Sep G (.snap [(r, exB (.mapIter (some b) since seen c0))] :: L.set j (.snap [(b, exB (.map es clock))])) → K (.ptr r 0) G) : Heavy P o e H K :=
  opRangeM ho ht hkt hx (snap_get hS hk) fun r es clock since seen c0 hr hF => k r es clock since seen c0 _ hF (by
    have hb := snap_get hS hk
    have hne : r ≠ b := fun g => by rw [g, hb] at hr; cases hr
    have h1 : Sep (H.set b (exB (.map es clock))) (L.set j (.snap [(b, exB (.map es clock))])) := hS.upd hk (fun q hq => by rw [List.mem_singleton.mp hq]; exact Heap.set_same _ _ _) (fun c x hc hx => by
      have : c ≠ b := by simpa [Res.blks] using hc
      rw [Heap.set_ne _ _ this]; exact hx) (fun c hc => .inl (by simpa [Res.blks] using hc))
    have hr' : (H.set b (exB (.map es clock))) r = none := by rw [Heap.set_ne _ _ hne]; exact hr
    exact h1.add (r := .snap [(r, exB (.mapIter (some b) since seen c0))]) (fun q hq => by rw [List.mem_singleton.mp hq]; exact Heap.set_same _ _ _) (fun c x hc => Heap.keep hr' hc) (fun c hc => by
      have : c = r := by simpa [Res.blks] using hc
      rw [this]; exact hr'))
theorem hNextM {kt et : TypeId} {x : Operand} {b r n j : Nat} {D : DataW Unit} {left : Lit → Bool} {cnt : Nat} {es : Array MapEntry} {clock since : Nat} {seen : Array Nat} {c0 : Nat} {F : List Res} (hS : Sep H (.snap [(r, exB (.mapIter (some b) since seen c0))] :: F)) (hj : F[j]? = some (.snap [(b, exB (.map es clock))]))
    (ho : o.op = .next x false) (hkt : P.underlying kt = some (.int .i64)) (het : P.underlying et = some (.int .i64)) (hx : ev e x = .ptr r 0) (hF : RgF P kt et b n D left cnt es clock since seen c0)
    (hDone : cnt = 0 → (∀ kl, left kl = false) → K (.tup [.bool false]) H)
    (hMore : ∀ key val cnt' since' seen' c0' G, (Lit.int .i64 key).wf = true → left (.int .i64 key) = true → RgF P kt et b n D (fun z => left z && !z.sameKey (.int .i64 key)) cnt' es clock since' seen' c0' → cnt' < cnt → EntF P b r es clock since' seen' c0' key val →
      Sep G (.snap [(r, exB (.mapIter (some b) since' seen' c0'))] :: F) → K (.tup [.bool true, .int .i64 key, .int .i64 val]) G) : Heavy P o e H K :=
  opNextM ho hkt het hx (snap_get (j := j + 1) hS hj) (snap_get (j := 0) hS rfl) hF hDone fun key val cnt' since' seen' c0' g1 g2 g3 g4 g5 => hMore key val cnt' since' seen' c0' _ g1 g2 g3 g4 g5 (by
    have := hS.upd (k := 0) rfl (G := H.set r (exB (.mapIter (some b) since' seen' c0'))) (r' := .snap [(r, exB (.mapIter (some b) since' seen' c0'))]) (fun q hq => by rw [List.mem_singleton.mp hq]; exact Heap.set_same _ _ _) (fun c x hc hx => by
      have : c ≠ r := by simpa [Res.blks] using hc
      rw [Heap.set_ne _ _ this]; exact hx) (fun c hc => .inl (by simpa [Res.blks] using hc))
    exact this)
theorem kEntryM {x : Operand} {b r i j : Nat} {es : Array MapEntry} {clock since : Nat} {seen : Array Nat} {c0 : Nat} {key val : Int} (hS : Sep H L) (hi : L[i]? = some (.snap [(r, exB (.mapIter (some b) since seen c0))])) (hj : L[j]? = some (.snap [(b, exB (.map es clock))])) (ho : o.op = .entry x) (hx : ev e x = .ptr r 0)
    (hF : EntF P b r es clock since seen c0 key val) : Light P o e H (.tup [.int .i64 key, .int .i64 val]) [b, r] := opEntryM ho hx (snap_get hS hj) (snap_get hS hi) hF
theorem kLookM {t kt et : TypeId} {x y : Operand} {r n j : Nat} {key : Int} {D : DataW Unit} (hS : Sep H L) (hk : L[j]? = some (.snap [(r, mapB P kt et n D)])) (ho : o.op = .lookup t x y false) (ht : P.underlying t = some (.map kt et)) (hkt : P.underlying kt = some (.int .i64)) (het : P.underlying et = some (.int .i64))
    (hz : ∀ w, (zeroValue et).run P w = .ok (.int .i64 0) w) (hx : ev e x = .mapp r) (hy : ev e y = .int .i64 key) (hw : (Lit.int .i64 key).wf = true) : Light P o e H (.int .i64 (numAt D key)) [r] := opLookupM ho ht hkt het hz hx hy hw (snap_get hS hk)
end
/-- The marks told ring by ring; the rings. -/
def markD (m : List (Int × Int)) : DataW Unit := m.foldl (fun D x => D.put (.int .i64 x.1) (.lit (.int .i64 (bOr .i64 (numAt D x.1) x.2)))) (.map [])
def ringD (m : List (Int × Int)) : DataW Unit := m.foldl (fun D x => D.put (.int .i64 x.1) (.lit (.int .i64 1))) (.map [])
theorem markD_snoc (m : List (Int × Int)) (x : Int × Int) : markD (m ++ [x]) = (markD m).put (.int .i64 x.1) (.lit (.int .i64 (bOr .i64 (numAt (markD m) x.1) x.2))) := by unfold markD; rw [List.foldl_append]; rfl
theorem ringD_snoc (m : List (Int × Int)) (x : Int × Int) : ringD (m ++ [x]) = (ringD m).put (.int .i64 x.1) (.lit (.int .i64 1)) := by unfold ringD; rw [List.foldl_append]; rfl
theorem isMap_fold {f : DataW Unit → Int × Int → DataW Unit} (hf : ∀ D x, IsMap D → IsMap (f D x)) : ∀ (m : List (Int × Int)) (D : DataW Unit), IsMap D → IsMap (m.foldl f D)
  | [], D, h => h
  | x :: m, D, h => isMap_fold hf m _ (hf D x h)
theorem markD_map (m : List (Int × Int)) : IsMap (markD m) := isMap_fold (fun D x h => h.put _ _) m _ isMap_empty
theorem ringD_map (m : List (Int × Int)) : IsMap (ringD m) := isMap_fold (fun D x h => h.put _ _) m _ isMap_empty
theorem numAt_put {D : DataW Unit} (h : IsMap D) (k v z : Int) : numAt (D.put (.int .i64 k) (.lit (.int .i64 v))) z = if z = k then v else numAt D z := by
  unfold numAt
  by_cases c : z = k
  · rw [c, atKey_put_same (k := .int .i64 k) h trivial, if_pos rfl]
  · rw [atKey_put_other (fun g => c (by injection g)), if_neg c]
theorem marks_eq (l : List (Int × Int)) (k : Int) : numAt (markD l) k = marksOf l k := by
  have key : ∀ n, ∀ l : List (Int × Int), l.length = n → numAt (markD l) k = marksOf l k := by
    intro n
    induction n with
    | zero =>
      intro l hl
      rw [List.eq_nil_of_length_eq_zero hl]; rfl
    | succ n ih =>
      intro l hl
      rcases List.eq_nil_or_concat l with rfl | ⟨m, x, rfl⟩
      · simp at hl
      · rw [List.concat_eq_append] at hl ⊢
        have hm := ih m (by simpa using hl)
        rw [markD_snoc, numAt_put (markD_map m)]
        unfold marksOf at hm ⊢
        rw [List.filter_append, List.foldl_append]
        by_cases c : k = x.1
        · rw [if_pos c, List.filter_cons_of_pos (by simpa using c.symm), List.filter_nil, List.foldl_cons, List.foldl_nil, ← hm, c]
        · rw [if_neg c, List.filter_cons_of_neg (by simpa using fun g => c g.symm), List.filter_nil, List.foldl_nil, hm]
  exact key l.length l rfl
theorem has_put' {D : DataW Unit} (h : IsMap D) (k v z : Int) : Maps.has (D.put (.int .i64 k) (.lit (.int .i64 v))) (.int .i64 z) = (decide (z = k) || Maps.has D (.int .i64 z)) := by
  by_cases c : z = k
  · rw [c, has_put_same (k := .int .i64 k) h trivial, decide_eq_true rfl]; rfl
  · rw [has_put_other (fun g => c (by injection g)), decide_eq_false c]; rfl
theorem rings_has (l : List (Int × Int)) (k : Int) : Maps.has (ringD l) (.int .i64 k) = true ↔ ∃ x ∈ l, x.1 = k := by
  have key : ∀ n, ∀ l : List (Int × Int), l.length = n → (Maps.has (ringD l) (.int .i64 k) = true ↔ ∃ x ∈ l, x.1 = k) := by
    intro n
    induction n with
    | zero =>
      intro l hl
      rw [List.eq_nil_of_length_eq_zero hl]
      exact ⟨fun h => (by cases h), fun ⟨x, hx, _⟩ => (by cases hx)⟩
    | succ n ih =>
      intro l hl
      rcases List.eq_nil_or_concat l with rfl | ⟨m, x, rfl⟩
      · simp at hl
      · rw [List.concat_eq_append] at hl ⊢
        have hm := ih m (by simpa using hl)
        rw [ringD_snoc, has_put' (ringD_map m), Bool.or_eq_true, decide_eq_true_eq, hm]
        constructor
        · rintro (rfl | ⟨y, hy, e⟩)
          · exact ⟨x, by simp, rfl⟩
          · exact ⟨y, by simp [hy], e⟩
        · rintro ⟨y, hy, e⟩
          rcases List.mem_append.mp hy with hy | hy
          · exact .inr ⟨y, hy, e⟩
          · rw [List.mem_singleton.mp hy] at e; exact .inl e.symm
  exact key l.length l rfl
theorem wfWrap (e : Int) : (Lit.int .i64 (IntKind.i64.wrap e)).wf = true := by
  simp [Lit.wf, IntKind.wrap, IntKind.min, IntKind.max, IntKind.signed, IntKind.bits] <;> (try split) <;> omega
theorem wfOr (a b : Int) : (Lit.int .i64 (bOr .i64 a b)).wf = true := by unfold bOr; exact wfWrap _
theorem wfKey {k : Int} (h : -9223372036854775808 ≤ k ∧ k ≤ 9223372036854775807) : (Lit.int .i64 k).wf = true := by
  simp only [Lit.wf, Bool.and_eq_true, decide_eq_true_eq]; exact h
theorem ix_get {α : Type} [Inhabited α] {xs : List α} {i : Nat} (h : i < xs.length) : ix xs (i : Int) = some xs[i] := by
  unfold ix; rw [if_pos ⟨by omega, by omega⟩, Int.toNat_natCast, List.getD_eq_getElem?_getD, List.getElem?_eq_getElem h]; rfl
theorem sameKey_int {a b : Int} (h : (Lit.int .i64 a).sameKey (.int .i64 b) = true) : a = b := (of_decide_eq_true h).2
end Go.Proofs.Ythdclobnmicdaaa.E
