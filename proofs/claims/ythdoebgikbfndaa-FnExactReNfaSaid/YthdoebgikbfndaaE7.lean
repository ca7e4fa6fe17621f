/- Steps: how a proof goes through a region. -/
import Derived.Test.YthdoebgikbfndaaE6
namespace Go.Proofs.Ythdoebgikbfndaa.E
open Go Go.RowKit
set_option linter.unusedVariables false

theorem wrap_ok {a : Int} (h : -9223372036854775808 ≤ a ∧ a ≤ 9223372036854775807) : IntKind.i64.wrap a = a := by
  rw [IntKind.wrap_i64]; omega

section
variable {P : Program} {ops : Array Oper} {K : Env → Heap → Prop} {o : Oper} {e : Env} {H : Heap}

/-- Lists of Go's things, as values. -/
def ints (xs : List Int) : AV := .list 1 (xs.map (AV.int .i64))
def lenT (P : Program) (t : TypeId) : Option Bool := match P.underlying t with
  | some .string => some true
  | some (.slice _) => some false
  | _ => none

theorem opLenOf {as : Array Operand} {ts : Array TypeId} {x : Operand} {t : TypeId} {b : Bool} {n : Nat} (ho : o.op = .call ⟨.builtin .len, as, ts⟩) (ha : as = #[x]) (ht : ts = #[t]) (hu : lenT P t = some b)
    (hs : (match ev e x with | .str _ => true | _ => false) = b) (hn : lenA (ev e x) = some n) : Light P o e H (.int .i64 n) [] := by
  refine opLen ho ha ht ?_ ?_ hn rfl
  · unfold lenT at hu; cases h : P.underlying t with
    | none => rw [h] at hu; simp at hu
    | some d => rw [h] at hu; cases d <;> simp at hu <;> rfl
  · refine Eq.trans (b := b) ?_ hs.symm
    unfold lenT at hu; cases h : P.underlying t with
    | none => rw [h] at hu; simp at hu
    | some d => rw [h] at hu; cases d <;> simp at hu <;> simp [hu]

theorem opLenMap {as : Array Operand} {ts : Array TypeId} {x : Operand} {t : TypeId} {α : Type} {f : α → AV} {xs : List α} {s : Nat} (ho : o.op = .call ⟨.builtin .len, as, ts⟩) (ha : as = #[x]) (ht : ts = #[t]) (hu : lenT P t = some false)
    (hx : ev e x = .list s (xs.map f)) : Light P o e H (.int .i64 xs.length) [] := by
  have := opLenOf (H := H) ho ha ht hu (by rw [hx]) (n := xs.length) (by rw [hx]; simp [lenA])
  exact this

theorem opIndexMap {t el s : Nat} {x y : Operand} {α : Type} [Inhabited α] {f : α → AV} {xs : List α} {k : IntKind} {i : Int} {v : AV} (ho : o.op = .indexAddr t x y) (hx : ev e x = .list s (xs.map f)) (hy : ev e y = .int k i)
    (ht : elemA P t = some el) (hs : sizeA P el = some s) (h0 : 0 ≤ i) (h1 : i < xs.length) (hv : v = .rptr (cells (f (xs.getD i.toNat default)))) : Light P o e H v [] :=
  opIndexAddrL ho hx hy ht hs h0 (z := f (xs.getD i.toNat default)) (by
    have : i.toNat < xs.length := by omega
    simp [this]) hv

theorem opIndexN {t el s : Nat} {x y : Operand} {α : Type} [Inhabited α] {f : α → AV} {xs : List α} {k : IntKind} {i : Nat} {v : AV} (ho : o.op = .indexAddr t x y) (hx : ev e x = .list s (xs.map f)) (hy : ev e y = .int k (i : Int))
    (ht : elemA P t = some el) (hs : sizeA P el = some s) (h1 : i < xs.length) (hv : v = .rptr (cells (f (xs.getD i default)))) : Light P o e H v [] :=
  opIndexMap ho hx hy ht hs (by omega) (by omega) hv
theorem opIndexI {t el s : Nat} {x y : Operand} {xs : List Int} {kk k : IntKind} {i : Int} (ho : o.op = .indexAddr t x y) (hx : ev e x = .list s (xs.map (AV.int kk))) (hy : ev e y = .int k i)
    (ht : elemA P t = some el) (hs : sizeA P el = some s) (h0 : 0 ≤ i) (h1 : i < xs.length) : Light P o e H (.rptr [.int kk (xs.getD i.toNat 0)]) [] :=
  opIndexMap ho hx hy ht hs h0 h1 rfl
theorem opIndexIN {t el s : Nat} {x y : Operand} {xs : List Int} {kk k : IntKind} {i : Nat} (ho : o.op = .indexAddr t x y) (hx : ev e x = .list s (xs.map (AV.int kk))) (hy : ev e y = .int k (i : Int))
    (ht : elemA P t = some el) (hs : sizeA P el = some s) (h1 : i < xs.length) : Light P o e H (.rptr [.int kk (xs.getD i 0)]) [] :=
  opIndexN ho hx hy ht hs h1 rfl

/-- A sum that stays in the kind. -/
theorem opAdd {xT yT : TypeId} {x y : Operand} {a b : Int} (ho : o.op = .binOp .add xT x y yT) (hx : ev e x = .int .i64 a) (hy : ev e y = .int .i64 b) (h : -9223372036854775808 ≤ a + b ∧ a + b ≤ 9223372036854775807) : Light P o e H (.int .i64 (a + b)) [] :=
  opInt ho hx hy (by simp only [intRes, wrap_ok h])
theorem opSub {xT yT : TypeId} {x y : Operand} {a b : Int} (ho : o.op = .binOp .sub xT x y yT) (hx : ev e x = .int .i64 a) (hy : ev e y = .int .i64 b) (h : -9223372036854775808 ≤ a - b ∧ a - b ≤ 9223372036854775807) : Light P o e H (.int .i64 (a - b)) [] :=
  opInt ho hx hy (by simp only [intRes, wrap_ok h])
theorem opMul {xT yT : TypeId} {x y : Operand} {a b : Int} (ho : o.op = .binOp .mul xT x y yT) (hx : ev e x = .int .i64 a) (hy : ev e y = .int .i64 b) (h : -9223372036854775808 ≤ a * b ∧ a * b ≤ 9223372036854775807) : Light P o e H (.int .i64 (a * b)) [] :=
  opInt ho hx hy (by simp only [intRes, wrap_ok h])

namespace ASL
variable {r : List Oper}
theorem done (h : K e H) : ASL P ops K [] e H := h
theorem off {d : Nat} (hw : want ops o e = some false) (hd : o.dst = some d) (h : ASL P ops K r (upd e d (.tup [])) H) : ASL P ops K (o :: r) e H := .inl ⟨hw, by rw [hd]; exact h⟩
theorem light {v : AV} {D : List Nat} {d : Nat} (hw : want ops o e = some true) (hd : o.dst = some d) (hl : Light P o e H v D) (h : ASL P ops K r (upd e d v) H) : ASL P ops K (o :: r) e H := .inr ⟨hw, by rw [hd]; exact hl.heavy h⟩
theorem dec {p : Prop} {q : Decidable p} {D : List Nat} {d : Nat} (hw : want ops o e = some true) (hd : o.dst = some d) (hl : Light P o e H (.bool (@decide p q)) D) (h : p → ASL P ops K r (upd e d (.bool true)) H) (k : ¬ p → ASL P ops K r (upd e d (.bool false)) H) : ASL P ops K (o :: r) e H := by
  by_cases c : p
  · rw [show (@decide p q) = true from decide_eq_true c] at hl; exact light hw hd hl (h c)
  · rw [show (@decide p q) = false from decide_eq_false c] at hl; exact light hw hd hl (k c)
theorem bool {c : Bool} {D : List Nat} {d : Nat} (hw : want ops o e = some true) (hd : o.dst = some d) (hl : Light P o e H (.bool c) D) (h : c = true → ASL P ops K r (upd e d (.bool true)) H) (k : c = false → ASL P ops K r (upd e d (.bool false)) H) : ASL P ops K (o :: r) e H := by
  cases c
  · exact light hw hd hl (k rfl)
  · exact light hw hd hl (h rfl)
theorem heavy (hw : want ops o e = some true) (hl : Heavy P o e H fun v G => ASL P ops K r (putE e o.dst v) G) : ASL P ops K (o :: r) e H := .inr ⟨hw, hl⟩
theorem boxI {t : Nat} {x : Operand} {v : AV} {d : Nat} (hw : want ops o e = some true) (hd : o.dst = some d) (ho : o.op = .box t x) (hx : ev e x = v) (hv : v.told = true) (h : ASL P ops K r (upd e d (.rptr (cells v))) H) : ASL P ops K (o :: r) e H :=
  heavy hw (opBoxI ho hx hv (by rw [hd]; exact h))
theorem callP {fo : Operand} {as : Array Operand} {ts : Array TypeId} {f : FuncId} {first caps bs : List AV} {R : AV → Prop} {d : Nat} (hw : want ops o e = some true) (hd : o.dst = some d) (ho : o.op = .call ⟨.value fo, as, ts⟩) (hf : ev e fo = .fn (.func f) first caps)
    (hc : callable P f = true) (h : PC P f bs R) (hb : bs = first ++ as.toList.map (ev e) ++ caps) (k : ∀ v, R v → ASL P ops K r (upd e d v) H) : ASL P ops K (o :: r) e H :=
  heavy hw (opCall ho hf hc (by rw [← hb, hd]; exact (h.hc H).mono fun v G g => by rw [g.2]; exact k v g.1))
theorem callB {fo : Operand} {as : Array Operand} {ts : Array TypeId} {f : FuncId} {first caps bs : List AV} {c : Bool} {d : Nat} (hw : want ops o e = some true) (hd : o.dst = some d) (ho : o.op = .call ⟨.value fo, as, ts⟩) (hf : ev e fo = .fn (.func f) first caps)
    (hc : callable P f = true) (h : PC P f bs fun v => v = .bool c) (hb : bs = first ++ as.toList.map (ev e) ++ caps) (k : c = true → ASL P ops K r (upd e d (.bool true)) H) (k' : c = false → ASL P ops K r (upd e d (.bool false)) H) : ASL P ops K (o :: r) e H :=
  callP hw hd ho hf hc h hb fun v hv => by subst hv; cases c; exact k' rfl; exact k rfl
theorem callR {fo : Operand} {as : Array Operand} {ts : Array TypeId} {f : FuncId} {first caps bs : List AV} {R : AV → Prop} {d : Nat} (hw : want ops o e = some true) (hd : o.dst = some d) (ho : o.op = .call ⟨.value fo, as, ts⟩) (hf : ev e fo = .fn (.func f) first caps)
    (hc : callable P f = true) (h : PC P f bs R) (hb : RAs H (first ++ as.toList.map (ev e) ++ caps) bs) (hs : ∀ v, R v → Scal v) (k : ∀ v, R v → ASL P ops K r (upd e d v) H) : ASL P ops K (o :: r) e H :=
  heavy hw (opCall ho hf hc (by rw [hd]; exact (PC.read h hb hs).mono fun v G g => by rw [g.2]; exact k v g.1))
theorem callH {fo : Operand} {as : Array Operand} {ts : Array TypeId} {f : FuncId} {first caps bs : List AV} {R : AV → Heap → Prop} {d : Nat} (hw : want ops o e = some true) (hd : o.dst = some d) (ho : o.op = .call ⟨.value fo, as, ts⟩) (hf : ev e fo = .fn (.func f) first caps)
    (hc : callable P f = true) (h : HC P f bs H R) (hb : bs = first ++ as.toList.map (ev e) ++ caps) (k : ∀ v G, R v G → ASL P ops K r (upd e d v) G) : ASL P ops K (o :: r) e H :=
  heavy hw (opCall ho hf hc (by rw [← hb, hd]; exact h.mono k))
theorem callD {fo : Operand} {as : Array Operand} {ts : Array TypeId} {f : FuncId} {first caps bs : List AV} {p : Prop} {q : Decidable p} {d : Nat} (hw : want ops o e = some true) (hd : o.dst = some d) (ho : o.op = .call ⟨.value fo, as, ts⟩) (hf : ev e fo = .fn (.func f) first caps)
    (hc : callable P f = true) (h : PC P f bs fun v => v = .bool (@decide p q)) (hb : bs = first ++ as.toList.map (ev e) ++ caps) (k : p → ASL P ops K r (upd e d (.bool true)) H) (k' : ¬ p → ASL P ops K r (upd e d (.bool false)) H) : ASL P ops K (o :: r) e H :=
  callB hw hd ho hf hc h hb (fun h => k (of_decide_eq_true h)) (fun h => k' (of_decide_eq_false h))
theorem store (hw : want ops o e = some true) (hd : o.dst = none) (hl : Heavy P o e H fun _ G => ASL P ops K r e G) : ASL P ops K (o :: r) e H := heavy hw (by rw [hd]; exact hl)
theorem heavy1 {d : Nat} (hw : want ops o e = some true) (hd : o.dst = some d) (hl : Heavy P o e H fun v G => ASL P ops K r (upd e d v) G) : ASL P ops K (o :: r) e H := heavy hw (by rw [hd]; exact hl)
end ASL

namespace ARL
variable {m : Bool} {r : List (Nat × Bool × Oper)} {i : Nat} {D : List (Nat × List Nat)}
theorem done (h : K e H) : ARL P ops K [] D e H := h
theorem off {d : Nat} (hw : want ops o e = some false) (hd : o.dst = some d) (h : ARL P ops K r D (upd e d (.tup [])) H) : ARL P ops K ((i, m, o) :: r) D e H := .inl ⟨hw, by rw [hd]; exact h⟩
theorem light0 {v : AV} {d : Nat} (hw : want ops o e = some true) (hd : o.dst = some d) (hb : m = m) (hl : Light P o e H v []) (h : ARL P ops K r ((i, []) :: D) (upd e d v) H) : ARL P ops K ((i, m, o) :: r) D e H := .inr (.inl ⟨hw, v, [], hl.quiet, by simp, by rw [hd]; exact h⟩)
theorem light {v : AV} {Db : List Nat} {d : Nat} (hw : want ops o e = some true) (hd : o.dst = some d) (hb : m = m) (hl : Light P o e H v Db) (hn : ∀ b ∈ Db, H b ≠ none) (h : ARL P ops K r ((i, Db) :: D) (upd e d v) H) : ARL P ops K ((i, m, o) :: r) D e H := .inr (.inl ⟨hw, v, Db, hl.quiet, hn, by rw [hd]; exact h⟩)
theorem dec {p : Prop} {q : Decidable p} {d : Nat} (hw : want ops o e = some true) (hd : o.dst = some d) (hb : m = m) (hl : Light P o e H (.bool (@decide p q)) []) (h : p → ARL P ops K r ((i, []) :: D) (upd e d (.bool true)) H) (k : ¬ p → ARL P ops K r ((i, []) :: D) (upd e d (.bool false)) H) : ARL P ops K ((i, m, o) :: r) D e H := by
  by_cases c : p
  · rw [show (@decide p q) = true from decide_eq_true c] at hl; exact light0 hw hd hb hl (h c)
  · rw [show (@decide p q) = false from decide_eq_false c] at hl; exact light0 hw hd hb hl (k c)
theorem bool {c : Bool} {d : Nat} (hw : want ops o e = some true) (hd : o.dst = some d) (hb : m = m) (hl : Light P o e H (.bool c) []) (h : c = true → ARL P ops K r ((i, []) :: D) (upd e d (.bool true)) H) (k : c = false → ARL P ops K r ((i, []) :: D) (upd e d (.bool false)) H) : ARL P ops K ((i, m, o) :: r) D e H := by
  cases c
  · exact light0 hw hd hb hl (k rfl)
  · exact light0 hw hd hb hl (h rfl)
/-- A heavy operation behind all that read what it may change. -/
theorem heavyD (hw : want ops o e = some true) (hb : m = true) (hd : D.all (fun d => depT ops ops.size o d.1 || d.2.isEmpty) = true) (hl : Heavy P o e H fun v G => ARL P ops K r D (putE e o.dst v) G) : ARL P ops K ((i, m, o) :: r) D e H := by
  refine .inr (.inr ⟨hw, hb, hl.mono fun v G g => ⟨fun d hd' => ?_, g⟩⟩)
  have := List.all_eq_true.mp hd d hd'
  rw [Bool.or_eq_true] at this
  rcases this with h | h
  · exact .inl h
  · right; rw [List.isEmpty_iff.mp h]; simp
/-- A heavy operation that leaves all that was there. -/
theorem heavyK (hw : want ops o e = some true) (hb : m = true) (hl : Heavy P o e H fun v G => (∀ c x, H c = some x → G c = some x) ∧ ARL P ops K r D (putE e o.dst v) G) : ARL P ops K ((i, m, o) :: r) D e H := by
  refine .inr (.inr ⟨hw, hb, hl.mono fun v G g => ⟨fun d hd' => .inr fun b _ hn => ?_, g.2⟩⟩)
  cases h : H b with
  | none => exact absurd h hn
  | some x => rw [g.1 b x h]
theorem boxI {t : Nat} {x : Operand} {v : AV} {d : Nat} (hw : want ops o e = some true) (hd : o.dst = some d) (hm : m = true) (ho : o.op = .box t x) (hx : ev e x = v) (hv : v.told = true) (h : ARL P ops K r D (upd e d (.rptr (cells v))) H) : ARL P ops K ((i, m, o) :: r) D e H :=
  heavyK hw hm (opBoxI ho hx hv ⟨fun _ _ h => h, by rw [hd]; exact h⟩)
theorem quiet {v : AV} {d : Nat} (hw : want ops o e = some true) (hd : o.dst = some d) (hl : Quiet P o e H v []) (h : ARL P ops K r ((i, []) :: D) (upd e d v) H) : ARL P ops K ((i, m, o) :: r) D e H := .inr (.inl ⟨hw, v, [], hl, by simp, by rw [hd]; exact h⟩)
theorem quietCall {fo : Operand} {as : Array Operand} {ts : Array TypeId} {f : FuncId} {first caps bs : List AV} {u : AV} (ho : o.op = .call ⟨.value fo, as, ts⟩) (hf : ev e fo = .fn (.func f) first caps)
    (hc : callable P f = true) (h : PC P f bs fun v => v = u) (hb : bs = first ++ as.toList.map (ev e) ++ caps) : Quiet P o e H u [] := by
  intro e' H' ha _ K k
  have hmem : ∀ x, x = fo ∨ x ∈ as.toList → x ∈ o.op.operands := by
    intro x hx
    rw [ho]
    rcases hx with rfl | hx
    · simp [Op.operands, Call.operands]
    · simp only [Array.mem_toList_iff] at hx
      simp [Op.operands, Call.operands, hx]
  have e1 : ev e' fo = ev e fo := ha fo (hmem fo (.inl rfl))
  have e2 : as.toList.map (ev e') = as.toList.map (ev e) := List.map_congr_left fun x hx => ha x (hmem x (.inr hx))
  exact opCall ho (by rw [e1]; exact hf) hc (by rw [e2, ← hb]; exact (h.hc H').mono fun v G g => by rw [g.1, g.2]; exact k)
theorem callP {fo : Operand} {as : Array Operand} {ts : Array TypeId} {f : FuncId} {first caps bs : List AV} {u : AV} {d : Nat} (hw : want ops o e = some true) (hd : o.dst = some d) (ho : o.op = .call ⟨.value fo, as, ts⟩) (hf : ev e fo = .fn (.func f) first caps)
    (hc : callable P f = true) (h : PC P f bs fun v => v = u) (hb : bs = first ++ as.toList.map (ev e) ++ caps) (k : ∀ v, v = u → ARL P ops K r ((i, []) :: D) (upd e d v) H) : ARL P ops K ((i, m, o) :: r) D e H :=
  quiet hw hd (quietCall ho hf hc h hb) (k u rfl)
theorem callG {fo : Operand} {as : Array Operand} {ts : Array TypeId} {f : FuncId} {first caps bs : List AV} {R : AV → Prop} {d : Nat} (hw : want ops o e = some true) (hd : o.dst = some d) (hm : m = true) (ho : o.op = .call ⟨.value fo, as, ts⟩) (hf : ev e fo = .fn (.func f) first caps)
    (hc : callable P f = true) (h : PC P f bs R) (hb : bs = first ++ as.toList.map (ev e) ++ caps) (k : ∀ v, R v → ARL P ops K r D (upd e d v) H) : ARL P ops K ((i, m, o) :: r) D e H :=
  heavyK hw hm (opCall ho hf hc (by rw [← hb, hd]; exact (h.hc H).mono fun v G g => by rw [g.2]; exact ⟨fun _ _ h => h, k v g.1⟩))
theorem callB {fo : Operand} {as : Array Operand} {ts : Array TypeId} {f : FuncId} {first caps bs : List AV} {c : Bool} {d : Nat} (hw : want ops o e = some true) (hd : o.dst = some d) (ho : o.op = .call ⟨.value fo, as, ts⟩) (hf : ev e fo = .fn (.func f) first caps)
    (hc : callable P f = true) (h : PC P f bs fun v => v = .bool c) (hb : bs = first ++ as.toList.map (ev e) ++ caps) (k : c = true → ARL P ops K r ((i, []) :: D) (upd e d (.bool true)) H) (k' : c = false → ARL P ops K r ((i, []) :: D) (upd e d (.bool false)) H) : ARL P ops K ((i, m, o) :: r) D e H :=
  callP hw hd ho hf hc h hb fun v hv => by subst hv; cases c; exact k' rfl; exact k rfl
theorem callR {fo : Operand} {as : Array Operand} {ts : Array TypeId} {f : FuncId} {first caps bs : List AV} {R : AV → Prop} {d : Nat} (hw : want ops o e = some true) (hd : o.dst = some d) (hm : m = true) (ho : o.op = .call ⟨.value fo, as, ts⟩) (hf : ev e fo = .fn (.func f) first caps)
    (hc : callable P f = true) (h : PC P f bs R) (hb : RAs H (first ++ as.toList.map (ev e) ++ caps) bs) (hs : ∀ v, R v → Scal v) (k : ∀ v, R v → ARL P ops K r D (upd e d v) H) : ARL P ops K ((i, m, o) :: r) D e H :=
  heavyK hw hm (opCall ho hf hc (by rw [hd]; exact (PC.read h hb hs).mono fun v G g => by rw [g.2]; exact ⟨fun _ _ h => h, k v g.1⟩))
/-- A call that may write: nothing that was read ahead of it is changed by it. -/
theorem callH {fo : Operand} {as : Array Operand} {ts : Array TypeId} {f : FuncId} {first caps bs : List AV} {R : AV → Heap → Prop} {d : Nat} (hw : want ops o e = some true) (hd : o.dst = some d) (hm : m = true) (ho : o.op = .call ⟨.value fo, as, ts⟩) (hf : ev e fo = .fn (.func f) first caps)
    (hc : callable P f = true) (h : HC P f bs H R) (hb : bs = first ++ as.toList.map (ev e) ++ caps) (hD : ∀ v G, R v G → ∀ q ∈ D, ∀ b ∈ q.2, G b = H b) (k : ∀ v G, R v G → ARL P ops K r D (upd e d v) G) : ARL P ops K ((i, m, o) :: r) D e H :=
  .inr (.inr ⟨hw, hm, opCall ho hf hc (by rw [← hb, hd]; exact h.mono fun v G g => ⟨fun q hq => .inr fun b hb _ => hD v G g q hq b hb, k v G g⟩)⟩)
theorem callD {fo : Operand} {as : Array Operand} {ts : Array TypeId} {f : FuncId} {first caps bs : List AV} {p : Prop} {q : Decidable p} {d : Nat} (hw : want ops o e = some true) (hd : o.dst = some d) (ho : o.op = .call ⟨.value fo, as, ts⟩) (hf : ev e fo = .fn (.func f) first caps)
    (hc : callable P f = true) (h : PC P f bs fun v => v = .bool (@decide p q)) (hb : bs = first ++ as.toList.map (ev e) ++ caps) (k : p → ARL P ops K r ((i, []) :: D) (upd e d (.bool true)) H) (k' : ¬ p → ARL P ops K r ((i, []) :: D) (upd e d (.bool false)) H) : ARL P ops K ((i, m, o) :: r) D e H :=
  callB hw hd ho hf hc h hb (fun h => k (of_decide_eq_true h)) (fun h => k' (of_decide_eq_false h))
theorem store (hw : want ops o e = some true) (hd : o.dst = none) (hb : m = true) (hD : D.all (fun d => depT ops ops.size o d.1 || d.2.isEmpty) = true) (hl : Heavy P o e H fun _ G => ARL P ops K r D e G) : ARL P ops K ((i, m, o) :: r) D e H := heavyD hw hb hD (by rw [hd]; exact hl)
theorem heavy1 {d : Nat} (hw : want ops o e = some true) (hd : o.dst = some d) (hb : m = true) (hD : D.all (fun d => depT ops ops.size o d.1 || d.2.isEmpty) = true) (hl : Heavy P o e H fun v G => ARL P ops K r D (upd e d v) G) : ARL P ops K ((i, m, o) :: r) D e H := heavyD hw hb hD (by rw [hd]; exact hl)
theorem keep1 {d : Nat} (hw : want ops o e = some true) (hd : o.dst = some d) (hb : m = true) (hl : Heavy P o e H fun v G => (∀ c x, H c = some x → G c = some x) ∧ ARL P ops K r D (upd e d v) G) : ARL P ops K ((i, m, o) :: r) D e H := heavyK hw hb (by rw [hd]; exact hl)
end ARL

end

section
variable {P : Program} {n : Nat} {Q : Exit → Env → Heap → Prop} {e : Env} {H : Heap}

theorem AWP.condT {c : Operand} {x y : Code} (hc : ev e c = .bool true) (h : AWP P n x Q e H) : AWP P n (.cond c x y) Q e H := AWP.cond hc (fun _ => h) (fun h => by simp at h)
theorem AWP.condF {c : Operand} {x y : Code} (hc : ev e c = .bool false) (h : AWP P n y Q e H) : AWP P n (.cond c x y) Q e H := AWP.cond hc (fun h => by simp at h) (fun _ => h)
theorem AWP.seqSkip {y : Code} (h : AWP P n y Q e H) : AWP P n (.seq .skip y) Q e H := AWP.seq (AWP.skip h)
/-- Handed back. -/
theorem QRet.one {rs : Array ResultVar} {R : AV → Heap → Prop} {t : Nat} {v : AV} (hr : rs = #[.tmp t]) (hv : e t = v) (h : R v H) : QRet P rs R .ret e H := by
  subst hr; exact ⟨v, ⟨[v], ⟨hv.symm, trivial⟩, .inl ⟨v, rfl, rfl⟩⟩, h⟩

theorem QRet.bool {rs : Array ResultVar} {c : Bool} {t : Nat} {x : Exit} {H : Heap} {d : Bool} (hx : x = .ret) (hr : rs = #[.tmp t]) (hv : e t = .bool c) (h : c = d) : QRet P rs (fun v _ => v = .bool d) x e H := by
  subst hx; exact QRet.one hr hv (by rw [h])
theorem QRet.int {rs : Array ResultVar} {k : IntKind} {c : Int} {t : Nat} {x : Exit} {H : Heap} {d : Int} (hx : x = .ret) (hr : rs = #[.tmp t]) (hv : e t = .int k c) (h : c = d) : QRet P rs (fun v _ => v = .int k d) x e H := by
  subst hx; exact QRet.one hr hv (by rw [h])

/-- A loop, its slots listed. -/
theorem AWP.loopL {c : Code} {α : Type} (S : α → List (Nat × AV)) (G : α → Heap → Prop) (μ : α → Nat) (I : α → Prop) (a0 : α) (h0 : I a0) (ht : Told e (S a0)) (hG : G a0 H)
    (round : ∀ a H, I a → G a H → AWP P n c (QThen (fun e' H' => ∃ a', I a' ∧ μ a' < μ a ∧ Told e' (S a') ∧ G a' H') Q) (envOf (S a)) H) : AWP P n (.loop c) Q e H := by
  refine AWP.loop (fun m e H => ∃ a, I a ∧ μ a = m ∧ Told e (S a) ∧ G a H) (m := μ a0) ⟨a0, h0, rfl, ht, hG⟩ ?_
  rintro m e H ⟨a, hI, rfl, hT, hG⟩
  refine AWP.only _ hT ((round a H hI hG).mono ?_)
  intro x e' H' hq
  cases x with
  | normal => obtain ⟨a', h1, h2, h3, h4⟩ := hq; exact ⟨μ a', h2, a', h1, rfl, h3, h4⟩
  | exit id => exact hq
  | goto l => exact hq
  | ret => exact hq
  | panic c => exact hq
  | outgrown => exact hq
end
end Go.Proofs.Ythdoebgikbfndaa.E
