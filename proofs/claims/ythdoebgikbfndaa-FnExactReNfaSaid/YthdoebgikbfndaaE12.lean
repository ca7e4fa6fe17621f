/- Variables of a call that lie in memory. -/
import Derived.Test.YthdoebgikbfndaaE11
namespace Go.Proofs.Ythdoebgikbfndaa.E
open Go Go.RowKit
set_option linter.unusedVariables false

/-- The variable at block b holds these cells. -/
def At (H : Heap) (b : Nat) (cs : List AV) : Prop := ∃ hi, H b = some ⟨0, cs, hi, none⟩
/-- Beside block b all stands as it stood. -/
def Near (b : Nat) (H G : Heap) : Prop := ∀ c x, c ≠ b → H c = some x → G c = some x

theorem At.grow {H G : Heap} {b : Nat} {cs : List AV} (h : At H b cs) (k : ∀ c x, H c = some x → G c = some x) : At G b cs := by
  obtain ⟨hi, h⟩ := h; exact ⟨hi, k _ _ h⟩
theorem At.near {H G : Heap} {b c : Nat} {cs : List AV} (h : At H b cs) (k : Near c H G) (n : b ≠ c) : At G b cs := by
  obtain ⟨hi, h⟩ := h; exact ⟨hi, k _ _ n h⟩
theorem At.beside {H G : Heap} {b : Nat} {v : AV} {cs : List AV} (h : At H b cs) (k : Beside v H G) (n : b ∉ rowB v) : At G b cs := by
  obtain ⟨hi, h⟩ := h; exact ⟨hi, k _ _ n h⟩
theorem At.ne {H : Heap} {b c : Nat} {cs : List AV} (h : At H b cs) (n : H c = none) : c ≠ b := by
  rintro rfl; obtain ⟨hi, h⟩ := h; rw [n] at h; cases h
theorem At.notin {H : Heap} {b : Nat} {v : AV} {cs : List AV} (h : At H b cs) (n : ∀ c ∈ rowB v, H c = none) : b ∉ rowB v := by
  intro k; obtain ⟨hi, h⟩ := h; rw [n b k] at h; cases h
theorem Own.notin {s : Nat} {H : Heap} {b : Nat} {v : AV} {xs : List AV} (h : Own s H v xs) (n : H b = none) : b ∉ rowB v := fun k => h.alive' b k n
theorem Own.near {s : Nat} {H G : Heap} {b : Nat} {v : AV} {xs : List AV} (h : Own s H v xs) (k : Near b H G) (n : b ∉ rowB v) : Own s G v xs :=
  h.keep fun c hc => by
    obtain ⟨x, hx⟩ := h.has c hc
    rw [hx, k c x (fun e => n (by rw [← e]; exact hc)) hx]
theorem At.alive {H : Heap} {b : Nat} {cs : List AV} (h : At H b cs) : H b ≠ none := by obtain ⟨hi, h⟩ := h; rw [h]; simp

section
variable {P : Program} {o : Oper} {e : Env} {H : Heap} {K : AV → Heap → Prop}
theorem opAllocAt {t : Nat} {z : Value} (ho : o.op = .alloc t) (hz : zeroA P t = some z) (h : ∀ b G, At G b (cells (avOf z)) → (∀ c x, H c = some x → G c = some x) → H b = none → K (.ptr b 0) G) : Heavy P o e H K :=
  opAlloc ho hz fun b hb => h b _ ⟨_, Heap.set_same _ _ _⟩ (fun c x hc => Heap.keep hb hc) hb
theorem opStoreAt {t b p : Nat} {x y : Operand} {v : AV} {cs : List AV} (ho : o.op = .store t x y) (hs : sizeA P t = some 1) (hx : ev e x = .ptr b p) (hy : ev e y = v) (hA : At H b cs) (h1 : v.one = true) (hp : p < cs.length)
    (h : ∀ G, At G b (cs.set p v) → Near b H G → K .undef G) : Heavy P o e H K := by
  obtain ⟨hi, hA⟩ := hA
  exact opStore1 ho hs hx hy hA (p := p) (by simp) h1 hp (h _ ⟨hi, Heap.set_same _ _ _⟩ fun c x hc hx => by rw [Heap.set_ne _ _ hc]; exact hx)
theorem opStoreAtA {t b p s : Nat} {x y : Operand} {v : AV} {cs : List AV} (ho : o.op = .store t x y) (hs : sizeA P t = some s) (hx : ev e x = .ptr b p) (hy : ev e y = v) (hA : At H b cs) (hv : v.told = true) (hl : (cells v).length = s) (h1 : (cells v).all AV.one = true) (hp : p + s ≤ cs.length)
    (h : ∀ G, At G b (setAll cs p (cells v)) → Near b H G → K .undef G) : Heavy P o e H K := by
  obtain ⟨hi, hA⟩ := hA
  exact opStore ho hs hx hy hA (p := p) (by simp) hv hl h1 hp (h _ ⟨hi, Heap.set_same _ _ _⟩ fun c x hc hx => by rw [Heap.set_ne _ _ hc]; exact hx)
theorem opLoadAt {t b p : Nat} {x : Operand} {v : AV} {cs : List AV} (ho : o.op = .load t x) (ht : aggA P t = some false) (hx : ev e x = .ptr b p) (hA : At H b cs) (hv : cs[p]? = some v) : Light P o e H v [b] := by
  obtain ⟨hi, hA⟩ := hA
  exact opLoad ho ht hx hA (p := p) (by simp) hv
theorem opLoadAtA {t b p s : Nat} {x : Operand} {cs : List AV} (ho : o.op = .load t x) (ht : aggA P t = some true) (hs : sizeA P t = some s) (hx : ev e x = .ptr b p) (hA : At H b cs) (hp : p + s ≤ cs.length) : Light P o e H (.agg ((cs.drop p).take s)) [b] := by
  obtain ⟨hi, hA⟩ := hA
  exact opLoadA ho ht hs hx hA (p := p) (by simp) hp rfl
theorem opStoreOwnM {α : Type} {f : α → AV} {t b q l c s i : Nat} {x y : Operand} {a : α} {zs : List α} (ho : o.op = .store t x y) (hs : sizeA P t = some s) (hx : ev e x = .ptr b (q + i * s)) (hy : ev e y = f a) (hO : Own s H (.slc b q l c) (zs.map f)) (hi : i < zs.length)
    (h1 : ∀ a, (f a).told = true ∧ (cells (f a)).length = s ∧ (cells (f a)).all AV.one = true) (h : ∀ G, Own s G (.slc b q l c) ((zs.set i a).map f) → Beside (.slc b q l c) H G → K .undef G) : Heavy P o e H K :=
  opStoreOwn ho hs hx hy hO (by simpa using hi) (h1 a).1 (h1 a).2.1 (h1 a).2.2 fun G hG hB => h G (by rw [List.map_set]; exact hG) hB
theorem opStoreRowM {α : Type} {f : α → AV} {t s i : Nat} {x y : Operand} {a : α} {v : AV} {zs : List α} (ho : o.op = .store t x y) (hs : sizeA P t = some s) (hx : ev e x = ptrTo v i s) (hy : ev e y = f a) (hO : Own s H v (zs.map f)) (hi : i < zs.length)
    (h1 : ∀ a, (f a).told = true ∧ (cells (f a)).length = s ∧ (cells (f a)).all AV.one = true) (h : ∀ G, Own s G v ((zs.set i a).map f) → Beside v H G → K .undef G) : Heavy P o e H K :=
  opStoreRow ho hs hx hy hO (by simpa using hi) (h1 a).1 (h1 a).2.1 (h1 a).2.2 fun G hG hB => h G (by rw [List.map_set]; exact hG) hB
end
theorem QRet.cell {P : Program} {rs : Array ResultVar} {R : AV → Heap → Prop} {t ty b : Nat} {e : Env} {H : Heap} {cs : List AV} (hr : rs = #[.cell t ty]) (hA : At H b cs) (hv : e t = .ptr b 0) (ha : aggA P ty = some true) (hs : sizeA P ty = some cs.length) (h : R (.agg cs) H) : QRet P rs R .ret e H := by
  obtain ⟨hi, hA⟩ := hA
  subst hr
  exact ⟨.agg cs, ⟨[.agg cs], ⟨.inr ⟨b, 0, 0, _, hv, hA, rfl, .inr ⟨_, ha, hs, by simp, by simp⟩⟩, trivial⟩, .inl ⟨_, rfl, rfl⟩⟩, h⟩
theorem AWP.settleAt {P : Program} {n : Nat} {c : Code} {Q : Exit → Env → Heap → Prop} {e : Env} {H G : Heap} {b : Nat} {cs : List AV} (t : Nat) (ht : e t = .ptr b 0) (hA : At G b cs) (hN : H b = none) (hk : ∀ c x, H c = some x → G c = some x)
    (h : AWP P n c Q (upd e t (.rptr cs)) H) : AWP P n c Q e G := by
  obtain ⟨hi, hA⟩ := hA
  exact AWP.settle t ht hA hN (fun c x hc _ => hk c x hc) h

end Go.Proofs.Ythdoebgikbfndaa.E
