/- Steps: how a proof goes through a region. -/
import Derived.Test.YthdoebgikbfndaaE6
namespace Go.Proofs.Ythdoebgikbfndaa.E
open Go Go.RowKit
set_option linter.unusedVariables false

theorem wrap_ok {a : Int} (h : -9223372036854775808 ≤ a ∧ a ≤ 9223372036854775807) : IntKind.i64.wrap a = a := by
  rw [IntKind.wrap_i64]; omega

section
variable {P : Program} {ops : Array Oper} {K : Env → Heap → Prop} {o : Oper} {e : Env} {H : Heap}

/-- Lists of Go's things, as values. -/
def ints (xs : List Int) : AV := .list 1 (xs.map (AV.int .i64))
def lenT (P : Program) (t : TypeId) : Option Bool := match P.underlying t with
  | some .string => some true
  | some (.slice _) => some false
  | _ => none

theorem opLenOf {as : Array Operand} {ts : Array TypeId} {x : Operand} {t : TypeId} {b : Bool} {n : Nat} (ho : o.op = .call ⟨.builtin .len, as, ts⟩) (ha : as = #[x]) (ht : ts = #[t]) (hu : lenT P t = some b)
    (hs : (match ev e x with | .str _ => true | _ => false) = b) (hn : lenA (ev e x) = some n) : Light P o e H (.int .i64 n) [] := by
  refine opLen ho ha ht ?_ ?_ hn rfl
  · unfold lenT at hu; cases h : P.underlying t with
    | none => rw [h] at hu; simp at hu
    | some d => rw [h] at hu; cases d <;> simp at hu <;> rfl
  · refine Eq.trans (b := b) ?_ hs.symm
    unfold lenT at hu; cases h : P.underlying t with
    | none => rw [h] at hu; simp at hu
    | some d => rw [h] at hu; cases d <;> simp at hu <;> simp [hu]

theorem opLenMap {as : Array Operand} {ts : Array TypeId} {x : Operand} {t : TypeId} {α : Type} {f : α → AV} {xs : List α} {s : Nat} (ho : o.op = .call ⟨.builtin .len, as, ts⟩) (ha : as = #[x]) (ht : ts = #[t]) (hu : lenT P t = some false)
    (hx : ev e x = .list s (xs.map f)) : Light P o e H (.int .i64 xs.length) [] := by
  have := opLenOf (H := H) ho ha ht hu (by rw [hx]) (n := xs.length) (by rw [hx]; simp [lenA])
  exact this

theorem opIndexMap {t el s : Nat} {x y : Operand} {α : Type} [Inhabited α] {f : α → AV} {xs : List α} {k : IntKind} {i : Int} {v : AV} (ho : o.op = .indexAddr t x y) (hx : ev e x = .list s (xs.map f)) (hy : ev e y = .int k i)
    (ht : elemA P t = some el) (hs : sizeA P el = some s) (h0 : 0 ≤ i) (h1 : i < xs.length) (hv : v = .rptr (cells (f (xs.getD i.toNat default)))) : Light P o e H v [] :=
  opIndexAddrL ho hx hy ht hs h0 (z := f (xs.getD i.toNat default)) (by
    have : i.toNat < xs.length := by omega
    simp [this]) hv

namespace ASL
variable {r : List Oper}
theorem done (h : K e H) : ASL P ops K [] e H := h
theorem heavy (hw : want ops o e = some true) (hl : Heavy P o e H fun v G => ASL P ops K r (putE e o.dst v) G) : ASL P ops K (o :: r) e H := .inr ⟨hw, hl⟩
end ASL

namespace ARL
variable {m : Bool} {r : List (Nat × Bool × Oper)} {i : Nat} {D : List (Nat × List Nat)}
theorem done (h : K e H) : ARL P ops K [] D e H := h
/-- A heavy operation behind all that read what it may change. -/
theorem heavyD (hw : want ops o e = some true) (hb : m = true) (hd : D.all (fun d => depT ops ops.size o d.1 || d.2.isEmpty) = true) (hl : Heavy P o e H fun v G => ARL P ops K r D (putE e o.dst v) G) : ARL P ops K ((i, m, o) :: r) D e H := by
  refine .inr (.inr ⟨hw, hb, hl.mono fun v G g => ⟨fun d hd' => ?_, g⟩⟩)
  have := List.all_eq_true.mp hd d hd'
  rw [Bool.or_eq_true] at this
  rcases this with h | h
  · exact .inl h
  · right; rw [List.isEmpty_iff.mp h]; simp
/-- A heavy operation that leaves all that was there. -/
theorem heavyK (hw : want ops o e = some true) (hb : m = true) (hl : Heavy P o e H fun v G => (∀ c x, H c = some x → G c = some x) ∧ ARL P ops K r D (putE e o.dst v) G) : ARL P ops K ((i, m, o) :: r) D e H := by
  refine .inr (.inr ⟨hw, hb, hl.mono fun v G g => ⟨fun d hd' => .inr fun b _ hn => ?_, g.2⟩⟩)
  cases h : H b with
  | none => exact absurd h hn
  | some x => rw [g.1 b x h]
theorem quietCall {fo : Operand} {as : Array Operand} {ts : Array TypeId} {f : FuncId} {first caps bs : List AV} {u : AV} (ho : o.op = .call ⟨.value fo, as, ts⟩) (hf : ev e fo = .fn (.func f) first caps)
    (hc : callable P f = true) (h : PC P f bs fun v => v = u) (hb : bs = first ++ as.toList.map (ev e) ++ caps) : Quiet P o e H u [] := by
  intro e' H' ha _ K k
  have hmem : ∀ x, x = fo ∨ x ∈ as.toList → x ∈ o.op.operands := by
    intro x hx
    rw [ho]
    rcases hx with rfl | hx
    · simp [Op.operands, Call.operands]
    · simp only [Array.mem_toList_iff] at hx
      simp [Op.operands, Call.operands, hx]
  have e1 : ev e' fo = ev e fo := ha fo (hmem fo (.inl rfl))
  have e2 : as.toList.map (ev e') = as.toList.map (ev e) := List.map_congr_left fun x hx => ha x (hmem x (.inr hx))
  exact opCall ho (by rw [e1]; exact hf) hc (by rw [e2, ← hb]; exact (h.hc H').mono fun v G g => by rw [g.1, g.2]; exact k)
theorem heavy1 {d : Nat} (hw : want ops o e = some true) (hd : o.dst = some d) (hb : m = true) (hD : D.all (fun d => depT ops ops.size o d.1 || d.2.isEmpty) = true) (hl : Heavy P o e H fun v G => ARL P ops K r D (upd e d v) G) : ARL P ops K ((i, m, o) :: r) D e H := heavyD hw hb hD (by rw [hd]; exact hl)
theorem keep1 {d : Nat} (hw : want ops o e = some true) (hd : o.dst = some d) (hb : m = true) (hl : Heavy P o e H fun v G => (∀ c x, H c = some x → G c = some x) ∧ ARL P ops K r D (upd e d v) G) : ARL P ops K ((i, m, o) :: r) D e H := heavyK hw hb (by rw [hd]; exact hl)
end ARL

end

section
variable {P : Program} {n : Nat} {Q : Exit → Env → Heap → Prop} {e : Env} {H : Heap}

theorem AWP.condT {c : Operand} {x y : Code} (hc : ev e c = .bool true) (h : AWP P n x Q e H) : AWP P n (.cond c x y) Q e H := AWP.cond hc (fun _ => h) (fun h => by simp at h)
theorem AWP.condF {c : Operand} {x y : Code} (hc : ev e c = .bool false) (h : AWP P n y Q e H) : AWP P n (.cond c x y) Q e H := AWP.cond hc (fun h => by simp at h) (fun _ => h)
end
end Go.Proofs.Ythdoebgikbfndaa.E
