/- Contracts from empty memory, told at any memory; rows of which only the elements are known. -/
import Derived.Test.YthdoebgikbfndaaE9
namespace Go.Proofs.Ythdoebgikbfndaa.E
open Go Go.RowKit
set_option linter.unusedVariables false

/-- K is H and beside it G. -/
def Join (H G K : Heap) : Prop := (∀ c x, H c = some x → K c = some x) ∧ ∀ c x, G c = some x → K c = some x ∧ H c = none

def Heap.join (H G : Heap) : Heap := fun c => match G c with
  | some x => some x
  | none => H c

theorem Rel.start {B : Base} {ι : Imm} {H : Heap} {w : World} (hr : Rel B ι H w) (κ : Imm) (hk : ∀ b o v, κ b o = some v → w.cell? ⟨b, o, none⟩ = some v) : Rel ⟨w.heap.size, w, κ⟩ κ (fun _ => none) w :=
  ⟨Bel.refl _ _, Nat.le_refl _, hk, fun _ _ _ => rfl, fun b x h => by simp at h, fun b x h => by simp at h, fun b x h => by simp at h, fun b x h => by simp at h⟩

theorem Rel.union {B : Base} {μ : Imm} {H G : Heap} {w : World} (h : Rel B μ H w) (lo : ∀ b x, G b = some x → B.base ≤ b ∧ b < w.heap.size ∧ x.lo + x.cs.length ≤ x.hi)
    (cell : ∀ b x, G b = some x → ∀ p (h : p < x.cs.length), ∃ v, w.cell? ⟨b, x.lo + p, none⟩ = some v ∧ V μ (x.cs[p]) v)
    (room : ∀ b x, G b = some x → ∀ o, x.lo ≤ o → o < x.hi → (∃ v, w.cell? ⟨b, o, none⟩ = some v) ∧ w.frozen? ⟨b, o, none⟩ = false ∧ μ b o = none)
    (obj : ∀ b x, G b = some x → ∀ q, x.ob = some q → x.hi = 0 ∧ q (w.heap[b]?)) : Rel B μ (H.join G) w := by
  refine ⟨h.below, h.size, h.imm, h.iold, fun b x k => ?_, fun b x k => ?_, fun b x k => ?_, fun b x k => ?_⟩ <;> unfold Heap.join at k <;> split at k
  · rename_i y hy; cases k; exact lo b x hy
  · exact h.lo b x k
  · rename_i y hy; cases k; exact cell b x hy
  · exact h.cell b x k
  · rename_i y hy; cases k; exact room b x hy
  · exact h.room b x k
  · rename_i y hy; cases k; exact obj b x hy
  · exact h.obj b x k

theorem Heap.join_Join {B B' : Base} {ι κ : Imm} {H G : Heap} {w w' : World} (hr : Rel B ι H w) (hb : B'.base = w.heap.size) (hg : Rel B' κ G w') : Join H G (H.join G) := by
  have key : ∀ c x, G c = some x → H c = none := fun c x hx => by
    have h1 := (hg.lo c x hx).1
    cases hh : H c with
    | none => rfl
    | some y => have := (hr.lo c y hh).2.1; omega
  refine ⟨fun c x hx => ?_, fun c x hx => ⟨by simp [Heap.join, hx], key c x hx⟩⟩
  unfold Heap.join
  cases hg' : G c with
  | none => exact hx
  | some y => rw [key c y hg'] at hx; cases hx

theorem HC.frame {P : Program} {f : FuncId} {as : List AV} {R : AV → Heap → Prop} (h : HC P f as (fun _ => none) R) (H : Heap) : HC P f as H fun v K => ∃ G, R v G ∧ Join H G K := by
  intro B ι w vs hr hv
  refine (h _ ι w vs (hr.start ι hr.imm) hv).mono ?_
  rintro x w' ⟨v, r, κ, G, h1, h2, h3, h4, h5⟩
  refine ⟨v, r, κ, H.join G, h1, ⟨G, h2, Heap.join_Join hr rfl h5⟩, h3, h4, ?_⟩
  have hold := hr.behind h4 h5.imm h5.below (fun b o hb => h5.iold b o hb)
  exact hold.union (fun b x hx => ⟨by have := (h5.lo b x hx).1; have := hr.size; simp only at *; omega, (h5.lo b x hx).2⟩) h5.cell h5.room h5.obj

/-- The same, at arguments that are owned and read. -/
theorem HC.frameR {P : Program} {f : FuncId} {as bs : List AV} {H : Heap} {R : AV → Heap → Prop} (h : HC P f bs (fun _ => none) R) (hab : RAs H as bs) (hs : ∀ v G, R v G → Scal v ∧ ∀ b x, G b = some x → ∀ c ∈ x.cs, Scal c) : HC P f as H fun v K => ∃ G, R v G ∧ Join H G K := by
  intro B ι w vs hr hv
  obtain ⟨a1, a2⟩ := hab.get
  have hv' : Vs (ι.all H w) bs vs := ⟨by rw [hv.1, a1], fun p hp => (a2 p (by omega) hp).V hr ((hv.2 p (by omega)).mono (Imm.all_le hr))⟩
  refine (h _ (ι.all H w) w vs (hr.start _ (Imm.all_imm hr)) hv').mono ?_
  rintro x w' ⟨v, r, κ, G, h1, h2, h3, h4, h5⟩
  obtain ⟨s1, s2⟩ := hs v G h2
  refine ⟨v, r, ι, H.join G, h1, ⟨G, h2, Heap.join_Join hr rfl h5⟩, s1.V h3, Imm.le_refl _, ?_⟩
  have hold := hr.behind (Imm.le_refl _) (fun b o u hu => by
    rw [h5.below.cell (p := ⟨b, o, none⟩) (blt (hr.imm _ _ _ hu))]; exact hr.imm _ _ _ hu) h5.below (fun _ _ _ => rfl)
  refine hold.union (fun b x hx => ⟨by have := (h5.lo b x hx).1; have := hr.size; simp only at *; omega, (h5.lo b x hx).2⟩) (fun b x hx p hp => ?_) (fun b x hx o g1 g2 => ?_) h5.obj
  · obtain ⟨u, k1, k2⟩ := h5.cell b x hx p hp
    exact ⟨u, k1, (s2 b x hx _ (List.getElem_mem hp)).V k2⟩
  · obtain ⟨k1, k2, k3⟩ := h5.room b x hx o g1 g2
    exact ⟨k1, k2, hr.ifresh (by have := (h5.lo b x hx).1; simpa using this)⟩

theorem Own.join {s : Nat} {H G K : Heap} {v : AV} {xs : List AV} (h : Own s G v xs) (j : Join H G K) : Fresh s H v K xs := by
  obtain ⟨h1, h2⟩ := h
  rcases h2 with ⟨rfl, rfl⟩ | ⟨b, o, rfl, rfl⟩ | ⟨b, o, cap, hi, rfl, g1, g2, g3, g4⟩
  · exact ⟨Own.nil _ _, j.1, fun c hc => by simp [rowB] at hc⟩
  · exact ⟨⟨h1, .inr (.inl ⟨b, o, rfl, rfl⟩)⟩, j.1, fun c hc => by simp [rowB] at hc⟩
  · exact ⟨⟨h1, .inr (.inr ⟨b, o, cap, hi, rfl, (j.2 _ _ g1).1, g2, g3, g4⟩)⟩, j.1, fun c hc => by rw [rowB_mem hc]; exact (j.2 _ _ g1).2⟩

/-- Handed back out of empty memory: a row of its own. -/
def PO (P : Program) (f : FuncId) (as : List AV) (s : Nat) (xs : List AV) : Prop := HC P f as (fun _ => none) fun v G => Own s G v xs
theorem HC.forget {P : Program} {f : FuncId} {as : List AV} {H : Heap} {R R' : AV → Heap → Prop} (h : HC P f as H R) (k : ∀ v G, R v G → ∃ G', (∀ c x, G' c = some x → G c = some x) ∧ R' v G') : HC P f as H R' := by
  intro B ι w vs hr hv
  refine (h B ι w vs hr hv).mono ?_
  rintro x w' ⟨v, r, κ, G, h1, h2, h3, h4, h5⟩
  obtain ⟨G', g1, g2⟩ := k v G h2
  exact ⟨v, r, κ, G', h1, g2, h3, h4, h5.less g1⟩
theorem PO.only {P : Program} {f : FuncId} {as : List AV} {s : Nat} {xs : List AV} (h : PO P f as s xs) : HC P f as (fun _ => none) fun v G => (∀ c, c ∉ rowB v → G c = none) ∧ Own s G v xs :=
  HC.forget h fun v G hO => ⟨fun c => if c ∈ rowB v then G c else none, fun c x (hc : (if c ∈ rowB v then G c else none) = some x) => (by split at hc; exact hc; cases hc), ⟨fun c hc => by simp [hc], hO.keep fun b hb => by simp [hb]⟩⟩
theorem PO.at {P : Program} {f : FuncId} {as : List AV} {s : Nat} {xs : List AV} (h : PO P f as s xs) (H : Heap) : HC P f as H fun v K => Fresh s H v K xs :=
  (HC.frame h H).mono fun v K ⟨G, h1, h2⟩ => h1.join h2
theorem PO.list {P : Program} {f : FuncId} {as : List AV} {s : Nat} {xs : List AV} (h : PO P f as s xs) : PC P f as fun v => v = .list s xs := PC.own fun H => h.at H
theorem PO.read {P : Program} {f : FuncId} {as bs : List AV} {s : Nat} {xs : List AV} {H : Heap} (h : PO P f bs s xs) (hab : RAs H as bs) (hs : ∀ x ∈ flat xs, Scal x) : HC P f as H fun v K => Fresh s H v K xs := by
  refine (HC.frameR h.only hab fun v G ⟨g1, g2⟩ => ?_).mono fun v K ⟨G, h1, h2⟩ => h1.2.join h2
  obtain ⟨h1, h2⟩ := g2
  rcases h2 with ⟨rfl, rfl⟩ | ⟨b, o, rfl, rfl⟩ | ⟨b, o, cap, hi, rfl, k1, k2, k3, k4⟩
  · exact ⟨.nil, fun b x hx => by rw [g1 b (by simp [rowB])] at hx; cases hx⟩
  · exact ⟨.slc _ _ _ _, fun b x hx => by rw [g1 b (by simp [rowB])] at hx; cases hx⟩
  · refine ⟨.slc _ _ _ _, fun b' x hx c hc => ?_⟩
    by_cases e : b' = b
    · subst e; rw [k1] at hx; cases hx; exact hs c hc
    · rw [g1 b' (by simp [rowB]; omega)] at hx; cases hx
theorem Scal.ints (k : IntKind) (zs : List Int) : ∀ x ∈ flat (zs.map (AV.int k)), Scal x := by
  intro x hx
  simp only [flat, List.mem_flatMap, List.mem_map] at hx
  obtain ⟨_, ⟨n, _, rfl⟩, hx⟩ := hx
  simp only [cells, List.mem_singleton] at hx; subst hx; exact .int _ _

/-- Where an element of a row lies, whatever the row. -/
def ptrTo (v : AV) (i s : Nat) : AV := match v with
  | .slc b q _ _ => .ptr b (q + i * s)
  | _ => .undef

section
variable {P : Program} {o : Oper} {e : Env} {H : Heap} {K : AV → Heap → Prop}
theorem Own.slc {s : Nat} {v : AV} {xs : List AV} (h : Own s H v xs) (hn : 0 < xs.length) : ∃ b q c, v = .slc b q xs.length c := by
  obtain ⟨h1, h2⟩ := h
  rcases h2 with ⟨rfl, rfl⟩ | ⟨b, o, rfl, rfl⟩ | ⟨b, o, cap, hi, rfl, k1, k2, k3, k4⟩
  · simp at hn
  · simp at hn
  · exact ⟨b, o, cap, rfl⟩
theorem opIndexOwnI {t el s : Nat} {x y : Operand} {k : IntKind} {i : Int} {v : AV} {α : Type} {f : α → AV} {zs : List α} (ho : o.op = .indexAddr t x y) (ht : elemA P t = some el) (hs : sizeA P el = some s) (hx : ev e x = v) (hO : Own s H v (zs.map f)) (hy : ev e y = .int k i)
    (h0 : 0 ≤ i) (h1 : i < zs.length) : Light P o e H (ptrTo v i.toNat s) [] := by
  obtain ⟨b, q, c, rfl⟩ := hO.slc (by simp; omega)
  exact opIndexAddr ho hx hy ht hs h0 (by simpa using h1) rfl
theorem opLenOwn {as : Array Operand} {ts : Array TypeId} {x : Operand} {t : TypeId} {α : Type} {f : α → AV} {zs : List α} {s : Nat} {v : AV} (ho : o.op = .call ⟨.builtin .len, as, ts⟩) (ha : as = #[x]) (ht : ts = #[t]) (hu : lenT P t = some false)
    (hx : ev e x = v) (hO : Own s H v (zs.map f)) : Light P o e H (.int .i64 zs.length) [] := by
  obtain ⟨h1, h2⟩ := hO
  rcases h2 with ⟨rfl, h⟩ | ⟨b, q, rfl, h⟩ | ⟨b, q, cap, hi, rfl, k1, k2, k3, k4⟩
  · have : zs = [] := by simpa using h
    subst this; exact opLenOf ho ha ht hu (by rw [hx]) (by rw [hx]; rfl)
  · have : zs = [] := by simpa using h
    subst this; exact opLenOf ho ha ht hu (by rw [hx]) (by rw [hx]; rfl)
  · have := opLenOf (H := H) ho ha ht hu (by rw [hx]) (n := (zs.map f).length) (by rw [hx]; rfl)
    simpa using this
theorem opLoadRow {α : Type} [Inhabited α] {f : α → AV} {t i : Nat} {x : Operand} {v : AV} {zs : List α} (ho : o.op = .load t x) (ht : aggA P t = some false) (hx : ev e x = ptrTo v i 1) (hO : Own 1 H v (zs.map f)) (hi : i < zs.length) (hu : ∀ a, cells (f a) = [f a]) : Light P o e H (f (zs.getD i default)) (rowB v) := by
  obtain ⟨b, q, c, rfl⟩ := hO.slc (by simp; omega)
  have hc : c ≠ 0 := by
    obtain ⟨_, _, _, _, g3, _, g5⟩ := hO.blk (by simp; omega)
    omega
  have := opLoadOwnM ho ht hx hO hi hu
  rw [show rowB (.slc b q (zs.map f).length c) = [b] by simp [rowB, hc]]
  exact this
theorem opStoreRow {t s i : Nat} {x y : Operand} {u v : AV} {xs : List AV} (ho : o.op = .store t x y) (hs : sizeA P t = some s) (hx : ev e x = ptrTo v i s) (hy : ev e y = u) (hO : Own s H v xs) (hi : i < xs.length)
    (hu : u.told = true) (hl : (cells u).length = s) (h1 : (cells u).all AV.one = true) (h : ∀ G, Own s G v (xs.set i u) → Beside v H G → K .undef G) : Heavy P o e H K := by
  obtain ⟨b, q, c, rfl⟩ := hO.slc (by omega)
  exact opStoreOwn ho hs hx hy hO hi hu hl h1 h
theorem Own.alive' {s : Nat} {v : AV} {xs : List AV} (h : Own s H v xs) : ∀ b ∈ rowB v, H b ≠ none := by
  intro b hb
  obtain ⟨h1, h2⟩ := h
  rcases h2 with ⟨rfl, h⟩ | ⟨c, q, rfl, h⟩ | ⟨c, q, cap, hi, rfl, k1, k2, k3, k4⟩
  · simp [rowB] at hb
  · simp [rowB] at hb
  · rw [rowB_mem hb, k1]; simp
end

section
variable {P : Program} {ops : Array Oper} {K : Env → Heap → Prop} {e : Env} {H : Heap} {o : Oper}
variable {m : Bool} {r : List (Nat × Bool × Oper)} {i : Nat} {D : List (Nat × List Nat)}
end


section
variable {P : Program} {o : Oper} {e : Env} {H : Heap} {K : AV → Heap → Prop}
end
section
variable {P : Program} {o : Oper} {e : Env} {H : Heap} {K : AV → Heap → Prop}
end
/-- Two rows with no block in common. -/
def Apart (u v : AV) : Prop := ∀ c ∈ rowB u, c ∉ rowB v
theorem Own.has {s : Nat} {H : Heap} {v : AV} {xs : List AV} (h : Own s H v xs) : ∀ b ∈ rowB v, ∃ x, H b = some x := fun b hb => by
  have := h.alive' b hb
  cases hh : H b with
  | none => exact absurd hh this
  | some x => exact ⟨x, rfl⟩
def marks (k : Int) (n : Nat) : List Int := (List.range n).map fun (i : Nat) => k + (i : Int)
def markL (k : Int) (i : Nat) (xs : List Int) : List Int := marks k i ++ xs.drop i
/-- Two lists are alike up to i. -/
def eqUp {α : Type} [Inhabited α] (xs ys : List α) (i : Nat) : Prop := ∀ j, j < i → xs.getD j default = ys.getD j default
end Go.Proofs.Ythdoebgikbfndaa.E
