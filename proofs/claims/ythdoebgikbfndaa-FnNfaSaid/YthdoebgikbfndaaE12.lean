/- Variables of a call that lie in memory. -/
import Derived.Test.YthdoebgikbfndaaE11
namespace Go.Proofs.Ythdoebgikbfndaa.E
open Go Go.RowKit
set_option linter.unusedVariables false

/-- The variable at block b holds these cells. -/
def At (H : Heap) (b : Nat) (cs : List AV) : Prop := ∃ hi, H b = some ⟨0, cs, hi, none⟩
/-- Beside block b all stands as it stood. -/
def Near (b : Nat) (H G : Heap) : Prop := ∀ c x, c ≠ b → H c = some x → G c = some x

section
variable {P : Program} {o : Oper} {e : Env} {H : Heap} {K : AV → Heap → Prop}
theorem opStoreAt {t b p : Nat} {x y : Operand} {v : AV} {cs : List AV} (ho : o.op = .store t x y) (hs : sizeA P t = some 1) (hx : ev e x = .ptr b p) (hy : ev e y = v) (hA : At H b cs) (h1 : v.one = true) (hp : p < cs.length)
    (h : ∀ G, At G b (cs.set p v) → Near b H G → K .undef G) : Heavy P o e H K := by
  obtain ⟨hi, hA⟩ := hA
  exact opStore1 ho hs hx hy hA (p := p) (by simp) h1 hp (h _ ⟨hi, Heap.set_same _ _ _⟩ fun c x hc hx => by rw [Heap.set_ne _ _ hc]; exact hx)
theorem opStoreAtA {t b p s : Nat} {x y : Operand} {v : AV} {cs : List AV} (ho : o.op = .store t x y) (hs : sizeA P t = some s) (hx : ev e x = .ptr b p) (hy : ev e y = v) (hA : At H b cs) (hv : v.told = true) (hl : (cells v).length = s) (h1 : (cells v).all AV.one = true) (hp : p + s ≤ cs.length)
    (h : ∀ G, At G b (setAll cs p (cells v)) → Near b H G → K .undef G) : Heavy P o e H K := by
  obtain ⟨hi, hA⟩ := hA
  exact opStore ho hs hx hy hA (p := p) (by simp) hv hl h1 hp (h _ ⟨hi, Heap.set_same _ _ _⟩ fun c x hc hx => by rw [Heap.set_ne _ _ hc]; exact hx)
theorem opLoadAt {t b p : Nat} {x : Operand} {v : AV} {cs : List AV} (ho : o.op = .load t x) (ht : aggA P t = some false) (hx : ev e x = .ptr b p) (hA : At H b cs) (hv : cs[p]? = some v) : Light P o e H v [b] := by
  obtain ⟨hi, hA⟩ := hA
  exact opLoad ho ht hx hA (p := p) (by simp) hv
theorem opLoadAtA {t b p s : Nat} {x : Operand} {cs : List AV} (ho : o.op = .load t x) (ht : aggA P t = some true) (hs : sizeA P t = some s) (hx : ev e x = .ptr b p) (hA : At H b cs) (hp : p + s ≤ cs.length) : Light P o e H (.agg ((cs.drop p).take s)) [b] := by
  obtain ⟨hi, hA⟩ := hA
  exact opLoadA ho ht hs hx hA (p := p) (by simp) hp rfl
end
end Go.Proofs.Ythdoebgikbfndaa.E
