/- Long arrays of numbers within a variable, told as functions. -/
import Derived.Test.YthdoebgikbfndaaG1
namespace Go.Proofs.Ythdoebgikbfndaa.E
open Go Go.RowKit
set_option linter.unusedVariables false

def upA (E : Nat → Int) (m : Nat) (v : Int) : Nat → Int := fun j => if j = m then v else E j
def arrC (n : Nat) (E : Nat → Int) : List AV := (List.range n).map fun i => AV.int .i64 (E i)
theorem arrC_get {pre : List AV} {n : Nat} {E : Nat → Int} {m : Nat} (h : m < n) : (pre ++ arrC n E)[pre.length + m]? = some (.int .i64 (E m)) := by
  rw [List.getElem?_append_right (by omega), Nat.add_sub_cancel_left]
  simp [arrC, h]
theorem arrC_set {pre : List AV} {n : Nat} {E : Nat → Int} {m : Nat} {v : Int} (h : m < n) : (pre ++ arrC n E).set (pre.length + m) (.int .i64 v) = pre ++ arrC n (upA E m v) := by
  rw [List.set_append_right _ _ (by omega), Nat.add_sub_cancel_left]
  congr 1
  apply List.ext_getElem?
  intro i
  unfold arrC upA
  by_cases c : i = m
  · subst c; simp [h]
  · rw [List.getElem?_set_ne (fun g => c g.symm)]
    by_cases d : i < n
    · simp [d, c]
    · simp [d]
section
variable {P : Program} {o : Oper} {e : Env} {H : Heap} {K : AV → Heap → Prop}
theorem run_indexArr {w : World} {t n el b q : Nat} {k : IntKind} {i : Int} (h : arrA P t = some (n, el, 1)) (h0 : 0 ≤ i) (h1 : i < n) :
    (Instr.indexAt t (.pointer (some ⟨b, q, none⟩)) (.int k i)).run P w = .ok (.pointer (some ⟨b, q + i.toNat, none⟩)) w := by
  obtain ⟨hu, hs⟩ := arrA_spec h
  simp [Instr.indexAt, asIntOf, run_underlying hu, h0, h1, run_sizeOf hs, Addr_add, Instr.sureAddr]
theorem opIndexArr {t n el b q m : Nat} {x y : Operand} {k : IntKind} {i : Int} (ho : o.op = .indexAddr t x y) (hx : ev e x = .ptr b q) (hy : ev e y = .int k i) (ht : arrA P t = some (n, el, 1)) (hm : ck i n = some m) : Light P o e H (.ptr b (q + m)) [] :=
  Light.of_run fun ι ρ w hi hV => by
    have g1 := hV x (by simp [ho, Op.operands]); rw [hx] at g1
    have g2 := hV y (by simp [ho, Op.operands]); rw [hy] at g2
    obtain ⟨c2, c3, c4, c1⟩ := ckE hm
    exact ⟨_, by simp [execOp, ho, g1.ptr_inv, g2.int_inv, run_indexArr ht c2 c3]; rfl, by rw [c4]; constructor⟩
theorem opIndexArrR {t n el m : Nat} {x y : Operand} {k : IntKind} {i : Int} {xs : List AV} (ho : o.op = .indexAddr t x y) (hx : ev e x = .rptr xs) (hy : ev e y = .int k i) (ht : arrA P t = some (n, el, 1)) (hm : ck i n = some m) : Light P o e H (.rptr (xs.drop m)) [] :=
  Light.of_run fun ι ρ w hi hV => by
    have g1 := hV x (by simp [ho, Op.operands]); rw [hx] at g1
    have g2 := hV y (by simp [ho, Op.operands]); rw [hy] at g2
    obtain ⟨c2, c3, c4, c1⟩ := ckE hm
    obtain ⟨b, q, vs, h, f1, f2⟩ := g1.rptr_inv
    exact ⟨_, by simp [execOp, ho, h, g2.int_inv, run_indexArr ht c2 c3]; rfl, by rw [c4]; exact V.rptr_drop vs f1 f2 m⟩
theorem opLoadArrR {t n m : Nat} {x : Operand} {i : Int} {xs : List AV} {E : Nat → Int} (hc : xs = arrC n E) (ho : o.op = .load t x) (ht : aggA P t = some false) (hx : ev e x = .rptr (xs.drop m)) (hm : ck i n = some m) : Light P o e H (.int .i64 (E m)) [] :=
  opLoadR ho ht hx (by
    have := arrC_get (pre := []) (E := E) (ckE hm).2.2.2
    rw [List.getElem?_drop, Nat.add_zero, hc]
    simpa using this)
theorem kAtArr {L : List Res} (hS : Sep H L) {j t b n m : Nat} {x : Operand} {i : Int} {cs pre : List AV} {E : Nat → Int} (hc : cs = pre ++ arrC n E) (hk : L[j]? = some (.cell b cs)) (ho : o.op = .load t x) (ht : aggA P t = some false) (hx : ev e x = .ptr b (pre.length + m)) (hm : ck i n = some m) : Light P o e H (.int .i64 (E m)) [b] :=
  kAt hS hk ho ht hx (by rw [hc]; exact arrC_get (ckE hm).2.2.2)
theorem hPutArr {L : List Res} (hS : Sep H L) {j t b n m : Nat} {x y : Operand} {i v : Int} {cs pre : List AV} {E : Nat → Int} (hc : cs = pre ++ arrC n E) (hk : L[j]? = some (.cell b cs)) (ho : o.op = .store t x y) (hs : sizeA P t = some 1) (hx : ev e x = .ptr b (pre.length + m)) (hm : ck i n = some m) (hy : ev e y = .int .i64 v)
    (h : ∀ G, Sep G (L.set j (.cell b (pre ++ arrC n (upA E m v)))) → K .undef G) : Heavy P o e H K :=
  hPut hS hk ho hs hx hy rfl (by rw [hc, List.length_append]; simp [arrC, (ckE hm).2.2.2]) fun G hG => h G (by rw [hc, arrC_set (ckE hm).2.2.2] at hG; exact hG)
theorem hPutArrB {L : List Res} (hS : Sep H L) {j t b n m : Nat} {x y : Operand} {i v : Int} {cs pre : List AV} {E : Nat → Int} (hc : cs = pre ++ arrC n E) (hk : L[j]? = some (.cell b cs)) (ho : o.op = .store t x y) (hs : sizeA P t = some 1) (hx : ev e x = .ptr b (pre.length + m)) (hm : ck i n = some m) (hy : ev e y = .int .i64 v)
    (h : ∀ G, BesL [b] H G → Sep G (L.set j (.cell b (pre ++ arrC n (upA E m v)))) → K .undef G) : Heavy P o e H K :=
  hPutB hS hk ho hs hx hy rfl (by rw [hc, List.length_append]; simp [arrC, (ckE hm).2.2.2]) fun G hB hG => h G hB (by rw [hc, arrC_set (ckE hm).2.2.2] at hG; exact hG)
theorem setAll_mid : ∀ (ys pre old : List AV), old.length = ys.length → setAll (pre ++ old) pre.length ys = pre ++ ys
  | [], pre, old, h => by
    have : old = [] := List.eq_nil_of_length_eq_zero h
    subst this; rfl
  | y :: ys, pre, [], h => by cases h
  | y :: ys, pre, o :: old, h => by
    have e : (pre ++ o :: old).set pre.length y = (pre ++ [y]) ++ old := by simp
    have := setAll_mid ys (pre ++ [y]) old (by simpa using h)
    rw [setAll, e]
    rw [List.length_append, List.length_singleton] at this
    rw [this, List.append_assoc]; rfl
theorem setAll_full {ys old : List AV} (h : old.length = ys.length) : setAll old 0 ys = ys := setAll_mid ys [] old h
theorem hPutAll {L : List Res} (hS : Sep H L) {j t b s : Nat} {x y : Operand} {v : AV} {cs ys : List AV} (hk : L[j]? = some (.cell b cs)) (ho : o.op = .store t x y) (hs : sizeA P t = some s) (hx : ev e x = .ptr b 0) (hy : ev e y = v) (hv : v.told = true) (hys : cells v = ys) (hl : ys.length = s) (h1 : ys.all AV.one = true) (hp : cs.length = s) (h0 : 0 < s)
    (h : ∀ G, Sep G (L.set j (.cell b ys)) → K .undef G) : Heavy P o e H K :=
  hPutA hS hk ho hs hx hy hv (by rw [hys]; exact hl) (by rw [hys]; exact h1) (by omega) fun G hG => h G (by rw [hys, setAll_full (by omega)] at hG; exact hG)
theorem hPutAllB {L : List Res} (hS : Sep H L) {j t b s : Nat} {x y : Operand} {v : AV} {cs ys : List AV} (hk : L[j]? = some (.cell b cs)) (ho : o.op = .store t x y) (hs : sizeA P t = some s) (hx : ev e x = .ptr b 0) (hy : ev e y = v) (hv : v.told = true) (hys : cells v = ys) (hl : ys.length = s) (h1 : ys.all AV.one = true) (hp : cs.length = s) (h0 : 0 < s)
    (h : ∀ G, BesL [b] H G → Sep G (L.set j (.cell b ys)) → K .undef G) : Heavy P o e H K :=
  hPutAB hS hk ho hs hx hy hv (by rw [hys]; exact hl) (by rw [hys]; exact h1) (by omega) fun G hB hG => h G hB (by rw [hys, setAll_full (by omega)] at hG; exact hG)
end
end Go.Proofs.Ythdoebgikbfndaa.E
