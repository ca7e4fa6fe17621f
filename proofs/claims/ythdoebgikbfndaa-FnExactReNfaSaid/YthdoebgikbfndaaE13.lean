/- A field of an element of a row is written. -/
import Derived.Test.YthdoebgikbfndaaE12
namespace Go.Proofs.Ythdoebgikbfndaa.E
open Go Go.RowKit
set_option linter.unusedVariables false

theorem allCons {x : AV} {l : List AV} (h : x.one = true) (k : l.all AV.one = true) : (x :: l).all AV.one = true := by rw [List.all_cons, h, k]; rfl
theorem Own.one {s : Nat} {H : Heap} {v : AV} {xs : List AV} (h : Own s H v xs) : v.one = true := by
  obtain ⟨_, h2⟩ := h
  rcases h2 with ⟨rfl, _⟩ | ⟨b, q, rfl, _⟩ | ⟨b, q, cap, hi, rfl, _⟩ <;> rfl
theorem Own.cells {s : Nat} {H : Heap} {v : AV} {xs : List AV} (h : Own s H v xs) : E.cells v = [v] := by
  obtain ⟨_, h2⟩ := h
  rcases h2 with ⟨rfl, _⟩ | ⟨b, q, rfl, _⟩ | ⟨b, q, cap, hi, rfl, _⟩ <;> rfl

section
variable {P : Program} {o : Oper} {e : Env} {H : Heap} {K : AV → Heap → Prop}
theorem set_flat {s : Nat} {xs : List AV} (hs : ∀ x ∈ xs, (cells x).length = s) {i j : Nat} {ys : List AV} {v : AV} (hv : xs[i]? = some (.agg ys)) (hj : j < ys.length) :
    (flat xs).set (i * s + j) v = flat (xs.set i (.agg (ys.set j v))) := by
  obtain ⟨hi, _⟩ := List.getElem?_eq_some_iff.mp hv
  have hys : ys.length = s := hs _ (List.mem_of_getElem? hv)
  rw [← flat_set hs hi (u := .agg (ys.set j v)) (by simp [cells, hys])]
  apply List.ext_getElem?
  intro k
  rw [setAll_get]
  simp only [cells, List.length_set, hys]
  have hl := flat_length hs
  by_cases e1 : k = i * s + j
  · subst e1
    have : i * s + s ≤ xs.length * s := by rw [← Nat.succ_mul]; exact Nat.mul_le_mul_right s hi
    rw [if_pos (by omega), show i * s + j - i * s = j by omega, List.getElem?_set_self (by omega), List.getElem?_set_self hj]
  · rw [List.getElem?_set_ne (fun k' => e1 k'.symm)]
    by_cases e2 : i * s ≤ k ∧ k < i * s + s ∧ k < (flat xs).length
    · rw [if_pos e2, List.getElem?_set_ne (by omega)]
      have := flat_get hs i (.agg ys) hv (k - i * s) (by omega)
      rw [show i * s + (k - i * s) = k by omega] at this
      rw [this]; rfl
    · rw [if_neg e2]
theorem opStoreOwnF {t b q l c s i j p : Nat} {x y : Operand} {v : AV} {xs ys : List AV} (ho : o.op = .store t x y) (hs : sizeA P t = some 1) (hx : ev e x = .ptr b p) (hp : p = q + i * s + j) (hy : ev e y = v) (hO : Own s H (.slc b q l c) xs) (hv : xs[i]? = some (.agg ys)) (hj : j < ys.length) (h1 : v.one = true)
    (h : ∀ G, Own s G (.slc b q l c) (xs.set i (.agg (ys.set j v))) → Beside (.slc b q l c) H G → K .undef G) : Heavy P o e H K := by
  obtain ⟨hi, _⟩ := List.getElem?_eq_some_iff.mp hv
  obtain ⟨hn, hh, g1, g2, g3, g4, g5⟩ := hO.blk (by omega)
  have hl := flat_length g4
  have hys : ys.length = s := g4 _ (List.mem_of_getElem? hv)
  have hle : i * s + s ≤ xs.length * s := by rw [← Nat.succ_mul]; exact Nat.mul_le_mul_right s hi
  refine opStore1 ho hs hx hy g1 (p := i * s + j) (by simp only; omega) h1 (by simp only; omega) (h _ ⟨?_, ?_⟩ ?_)
  · intro z hz
    rcases List.mem_or_eq_of_mem_set hz with hz | rfl
    · exact g4 z hz
    · simp [cells, hys]
  · refine .inr (.inr ⟨b, q, c, hh, by simp [hn], ?_, g2, by simpa using g3, g5⟩)
    rw [Heap.set_same, set_flat g4 hv hj]
  · intro d z hd hz
    rw [Heap.set_ne _ _ (fun k => hd (by rw [k]; simp [rowB]; omega))]; exact hz
/-- The same, of a row whose elements are told by f: the element is changed by g. -/
theorem opStoreFM {α : Type} [Inhabited α] {f : α → AV} (g : α → α) {t b q l c s i j p : Nat} {x y : Operand} {u : AV} {zs : List α} (ho : o.op = .store t x y) (hs : sizeA P t = some 1) (hx : ev e x = .ptr b p) (hp : p = q + i * s + j) (hy : ev e y = u) (hO : Own s H (.slc b q l c) (zs.map f)) (hi : i < zs.length)
    (hf : ∀ a, ∃ ys, f a = .agg ys ∧ j < ys.length ∧ f (g a) = .agg (ys.set j u)) (h1 : u.one = true)
    (h : ∀ G, Own s G (.slc b q l c) ((zs.set i (g (zs.getD i default))).map f) → Beside (.slc b q l c) H G → K .undef G) : Heavy P o e H K := by
  obtain ⟨ys, f1, f2, f3⟩ := hf (zs.getD i default)
  refine opStoreOwnF ho hs hx hp hy hO (i := i) (ys := ys) (by rw [List.getElem?_map]; simp [hi] at f1 ⊢; exact f1) f2 h1 fun G hG hB => h G ?_ hB
  rw [List.map_set, f3]; exact hG
end
end Go.Proofs.Ythdoebgikbfndaa.E
