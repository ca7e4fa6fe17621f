/- Contracts from empty memory, told at any memory; rows of which only the elements are known. -/
import Derived.Test.YthdoebgikbfndaaE9
namespace Go.Proofs.Ythdoebgikbfndaa.E
open Go Go.RowKit
set_option linter.unusedVariables false

theorem QThen.ret1 {A : Env → Heap → Prop} {Q : Exit → Env → Heap → Prop} {e : Env} {H : Heap} (h : Q .ret e H) : QThen A Q .ret e H := h
/-- K is H and beside it G. -/
def Join (H G K : Heap) : Prop := (∀ c x, H c = some x → K c = some x) ∧ ∀ c x, G c = some x → K c = some x ∧ H c = none

def Heap.join (H G : Heap) : Heap := fun c => match G c with
  | some x => some x
  | none => H c

theorem Rel.start {B : Base} {ι : Imm} {H : Heap} {w : World} (hr : Rel B ι H w) (κ : Imm) (hk : ∀ b o v, κ b o = some v → w.cell? ⟨b, o, none⟩ = some v) : Rel ⟨w.heap.size, w, κ⟩ κ (fun _ => none) w :=
  ⟨Bel.refl _ _, Nat.le_refl _, hk, fun _ _ _ => rfl, fun b x h => by simp at h, fun b x h => by simp at h, fun b x h => by simp at h, fun b x h => by simp at h⟩

theorem Rel.union {B : Base} {μ : Imm} {H G : Heap} {w : World} (h : Rel B μ H w) (lo : ∀ b x, G b = some x → B.base ≤ b ∧ b < w.heap.size ∧ x.lo + x.cs.length ≤ x.hi)
    (cell : ∀ b x, G b = some x → ∀ p (h : p < x.cs.length), ∃ v, w.cell? ⟨b, x.lo + p, none⟩ = some v ∧ V μ (x.cs[p]) v)
    (room : ∀ b x, G b = some x → ∀ o, x.lo ≤ o → o < x.hi → (∃ v, w.cell? ⟨b, o, none⟩ = some v) ∧ w.frozen? ⟨b, o, none⟩ = false ∧ μ b o = none)
    (obj : ∀ b x, G b = some x → ∀ q, x.ob = some q → x.hi = 0 ∧ q (w.heap[b]?)) : Rel B μ (H.join G) w := by
  refine ⟨h.below, h.size, h.imm, h.iold, fun b x k => ?_, fun b x k => ?_, fun b x k => ?_, fun b x k => ?_⟩ <;> unfold Heap.join at k <;> split at k
  · rename_i y hy; cases k; exact lo b x hy
  · exact h.lo b x k
  · rename_i y hy; cases k; exact cell b x hy
  · exact h.cell b x k
  · rename_i y hy; cases k; exact room b x hy
  · exact h.room b x k
  · rename_i y hy; cases k; exact obj b x hy
  · exact h.obj b x k

theorem Heap.join_Join {B B' : Base} {ι κ : Imm} {H G : Heap} {w w' : World} (hr : Rel B ι H w) (hb : B'.base = w.heap.size) (hg : Rel B' κ G w') : Join H G (H.join G) := by
  have key : ∀ c x, G c = some x → H c = none := fun c x hx => by
    have h1 := (hg.lo c x hx).1
    cases hh : H c with
    | none => rfl
    | some y => have := (hr.lo c y hh).2.1; omega
  refine ⟨fun c x hx => ?_, fun c x hx => ⟨by simp [Heap.join, hx], key c x hx⟩⟩
  unfold Heap.join
  cases hg' : G c with
  | none => exact hx
  | some y => rw [key c y hg'] at hx; cases hx

theorem HC.frame {P : Program} {f : FuncId} {as : List AV} {R : AV → Heap → Prop} (h : HC P f as (fun _ => none) R) (H : Heap) : HC P f as H fun v K => ∃ G, R v G ∧ Join H G K := by
  intro B ι w vs hr hv
  refine (h _ ι w vs (hr.start ι hr.imm) hv).mono ?_
  rintro x w' ⟨v, r, κ, G, h1, h2, h3, h4, h5⟩
  refine ⟨v, r, κ, H.join G, h1, ⟨G, h2, Heap.join_Join hr rfl h5⟩, h3, h4, ?_⟩
  have hold := hr.behind h4 h5.imm h5.below (fun b o hb => h5.iold b o hb)
  exact hold.union (fun b x hx => ⟨by have := (h5.lo b x hx).1; have := hr.size; simp only at *; omega, (h5.lo b x hx).2⟩) h5.cell h5.room h5.obj

/-- The same, at arguments that are owned and read. -/
theorem HC.frameR {P : Program} {f : FuncId} {as bs : List AV} {H : Heap} {R : AV → Heap → Prop} (h : HC P f bs (fun _ => none) R) (hab : RAs H as bs) (hs : ∀ v G, R v G → Scal v ∧ ∀ b x, G b = some x → ∀ c ∈ x.cs, Scal c) : HC P f as H fun v K => ∃ G, R v G ∧ Join H G K := by
  intro B ι w vs hr hv
  obtain ⟨a1, a2⟩ := hab.get
  have hv' : Vs (ι.all H w) bs vs := ⟨by rw [hv.1, a1], fun p hp => (a2 p (by omega) hp).V hr ((hv.2 p (by omega)).mono (Imm.all_le hr))⟩
  refine (h _ (ι.all H w) w vs (hr.start _ (Imm.all_imm hr)) hv').mono ?_
  rintro x w' ⟨v, r, κ, G, h1, h2, h3, h4, h5⟩
  obtain ⟨s1, s2⟩ := hs v G h2
  refine ⟨v, r, ι, H.join G, h1, ⟨G, h2, Heap.join_Join hr rfl h5⟩, s1.V h3, Imm.le_refl _, ?_⟩
  have hold := hr.behind (Imm.le_refl _) (fun b o u hu => by
    rw [h5.below.cell (p := ⟨b, o, none⟩) (blt (hr.imm _ _ _ hu))]; exact hr.imm _ _ _ hu) h5.below (fun _ _ _ => rfl)
  refine hold.union (fun b x hx => ⟨by have := (h5.lo b x hx).1; have := hr.size; simp only at *; omega, (h5.lo b x hx).2⟩) (fun b x hx p hp => ?_) (fun b x hx o g1 g2 => ?_) h5.obj
  · obtain ⟨u, k1, k2⟩ := h5.cell b x hx p hp
    exact ⟨u, k1, (s2 b x hx _ (List.getElem_mem hp)).V k2⟩
  · obtain ⟨k1, k2, k3⟩ := h5.room b x hx o g1 g2
    exact ⟨k1, k2, hr.ifresh (by have := (h5.lo b x hx).1; simpa using this)⟩

theorem Own.join {s : Nat} {H G K : Heap} {v : AV} {xs : List AV} (h : Own s G v xs) (j : Join H G K) : Fresh s H v K xs := by
  obtain ⟨h1, h2⟩ := h
  rcases h2 with ⟨rfl, rfl⟩ | ⟨b, o, rfl, rfl⟩ | ⟨b, o, cap, hi, rfl, g1, g2, g3, g4⟩
  · exact ⟨Own.nil _ _, j.1, fun c hc => by simp [rowB] at hc⟩
  · exact ⟨⟨h1, .inr (.inl ⟨b, o, rfl, rfl⟩)⟩, j.1, fun c hc => by simp [rowB] at hc⟩
  · exact ⟨⟨h1, .inr (.inr ⟨b, o, cap, hi, rfl, (j.2 _ _ g1).1, g2, g3, g4⟩)⟩, j.1, fun c hc => by rw [rowB_mem hc]; exact (j.2 _ _ g1).2⟩

/-- Handed back out of empty memory: a row of its own. -/
def PO (P : Program) (f : FuncId) (as : List AV) (s : Nat) (xs : List AV) : Prop := HC P f as (fun _ => none) fun v G => Own s G v xs
theorem HC.forget {P : Program} {f : FuncId} {as : List AV} {H : Heap} {R R' : AV → Heap → Prop} (h : HC P f as H R) (k : ∀ v G, R v G → ∃ G', (∀ c x, G' c = some x → G c = some x) ∧ R' v G') : HC P f as H R' := by
  intro B ι w vs hr hv
  refine (h B ι w vs hr hv).mono ?_
  rintro x w' ⟨v, r, κ, G, h1, h2, h3, h4, h5⟩
  obtain ⟨G', g1, g2⟩ := k v G h2
  exact ⟨v, r, κ, G', h1, g2, h3, h4, h5.less g1⟩
theorem PO.only {P : Program} {f : FuncId} {as : List AV} {s : Nat} {xs : List AV} (h : PO P f as s xs) : HC P f as (fun _ => none) fun v G => (∀ c, c ∉ rowB v → G c = none) ∧ Own s G v xs :=
  HC.forget h fun v G hO => ⟨fun c => if c ∈ rowB v then G c else none, fun c x (hc : (if c ∈ rowB v then G c else none) = some x) => (by split at hc; exact hc; cases hc), ⟨fun c hc => by simp [hc], hO.keep fun b hb => by simp [hb]⟩⟩
theorem PO.at {P : Program} {f : FuncId} {as : List AV} {s : Nat} {xs : List AV} (h : PO P f as s xs) (H : Heap) : HC P f as H fun v K => Fresh s H v K xs :=
  (HC.frame h H).mono fun v K ⟨G, h1, h2⟩ => h1.join h2
theorem PO.list {P : Program} {f : FuncId} {as : List AV} {s : Nat} {xs : List AV} (h : PO P f as s xs) : PC P f as fun v => v = .list s xs := PC.own fun H => h.at H
theorem PO.read {P : Program} {f : FuncId} {as bs : List AV} {s : Nat} {xs : List AV} {H : Heap} (h : PO P f bs s xs) (hab : RAs H as bs) (hs : ∀ x ∈ flat xs, Scal x) : HC P f as H fun v K => Fresh s H v K xs := by
  refine (HC.frameR h.only hab fun v G ⟨g1, g2⟩ => ?_).mono fun v K ⟨G, h1, h2⟩ => h1.2.join h2
  obtain ⟨h1, h2⟩ := g2
  rcases h2 with ⟨rfl, rfl⟩ | ⟨b, o, rfl, rfl⟩ | ⟨b, o, cap, hi, rfl, k1, k2, k3, k4⟩
  · exact ⟨.nil, fun b x hx => by rw [g1 b (by simp [rowB])] at hx; cases hx⟩
  · exact ⟨.slc _ _ _ _, fun b x hx => by rw [g1 b (by simp [rowB])] at hx; cases hx⟩
  · refine ⟨.slc _ _ _ _, fun b' x hx c hc => ?_⟩
    by_cases e : b' = b
    · subst e; rw [k1] at hx; cases hx; exact hs c hc
    · rw [g1 b' (by simp [rowB]; omega)] at hx; cases hx
theorem Scal.ints (k : IntKind) (zs : List Int) : ∀ x ∈ flat (zs.map (AV.int k)), Scal x := by
  intro x hx
  simp only [flat, List.mem_flatMap, List.mem_map] at hx
  obtain ⟨_, ⟨n, _, rfl⟩, hx⟩ := hx
  simp only [cells, List.mem_singleton] at hx; subst hx; exact .int _ _

/-- Where an element of a row lies, whatever the row. -/
def ptrTo (v : AV) (i s : Nat) : AV := match v with
  | .slc b q _ _ => .ptr b (q + i * s)
  | _ => .undef

section
variable {P : Program} {o : Oper} {e : Env} {H : Heap} {K : AV → Heap → Prop}
theorem Own.slc {s : Nat} {v : AV} {xs : List AV} (h : Own s H v xs) (hn : 0 < xs.length) : ∃ b q c, v = .slc b q xs.length c := by
  obtain ⟨h1, h2⟩ := h
  rcases h2 with ⟨rfl, rfl⟩ | ⟨b, o, rfl, rfl⟩ | ⟨b, o, cap, hi, rfl, k1, k2, k3, k4⟩
  · simp at hn
  · simp at hn
  · exact ⟨b, o, cap, rfl⟩
theorem opIndexOwn {t el s : Nat} {x y : Operand} {k : IntKind} {i : Nat} {v : AV} {α : Type} {f : α → AV} {zs : List α} (ho : o.op = .indexAddr t x y) (ht : elemA P t = some el) (hs : sizeA P el = some s) (hx : ev e x = v) (hO : Own s H v (zs.map f)) (hy : ev e y = .int k (i : Int))
    (h1 : i < zs.length) : Light P o e H (ptrTo v i s) [] := by
  obtain ⟨b, q, c, rfl⟩ := hO.slc (by simp; omega)
  exact opIndexAddrN ho hx hy ht hs (by simpa using h1)
theorem opIndexOwnI {t el s : Nat} {x y : Operand} {k : IntKind} {i : Int} {v : AV} {α : Type} {f : α → AV} {zs : List α} (ho : o.op = .indexAddr t x y) (ht : elemA P t = some el) (hs : sizeA P el = some s) (hx : ev e x = v) (hO : Own s H v (zs.map f)) (hy : ev e y = .int k i)
    (h0 : 0 ≤ i) (h1 : i < zs.length) : Light P o e H (ptrTo v i.toNat s) [] := by
  obtain ⟨b, q, c, rfl⟩ := hO.slc (by simp; omega)
  exact opIndexAddr ho hx hy ht hs h0 (by simpa using h1) rfl
theorem opLenOwn {as : Array Operand} {ts : Array TypeId} {x : Operand} {t : TypeId} {α : Type} {f : α → AV} {zs : List α} {s : Nat} {v : AV} (ho : o.op = .call ⟨.builtin .len, as, ts⟩) (ha : as = #[x]) (ht : ts = #[t]) (hu : lenT P t = some false)
    (hx : ev e x = v) (hO : Own s H v (zs.map f)) : Light P o e H (.int .i64 zs.length) [] := by
  obtain ⟨h1, h2⟩ := hO
  rcases h2 with ⟨rfl, h⟩ | ⟨b, q, rfl, h⟩ | ⟨b, q, cap, hi, rfl, k1, k2, k3, k4⟩
  · have : zs = [] := by simpa using h
    subst this; exact opLenOf ho ha ht hu (by rw [hx]) (by rw [hx]; rfl)
  · have : zs = [] := by simpa using h
    subst this; exact opLenOf ho ha ht hu (by rw [hx]) (by rw [hx]; rfl)
  · have := opLenOf (H := H) ho ha ht hu (by rw [hx]) (n := (zs.map f).length) (by rw [hx]; rfl)
    simpa using this
theorem opLoadRow {α : Type} [Inhabited α] {f : α → AV} {t i : Nat} {x : Operand} {v : AV} {zs : List α} (ho : o.op = .load t x) (ht : aggA P t = some false) (hx : ev e x = ptrTo v i 1) (hO : Own 1 H v (zs.map f)) (hi : i < zs.length) (hu : ∀ a, cells (f a) = [f a]) : Light P o e H (f (zs.getD i default)) (rowB v) := by
  obtain ⟨b, q, c, rfl⟩ := hO.slc (by simp; omega)
  have hc : c ≠ 0 := by
    obtain ⟨_, _, _, _, g3, _, g5⟩ := hO.blk (by simp; omega)
    omega
  have := opLoadOwnM ho ht hx hO hi hu
  rw [show rowB (.slc b q (zs.map f).length c) = [b] by simp [rowB, hc]]
  exact this
theorem opLoadRowI {k : IntKind} {t i : Nat} {x : Operand} {v : AV} {zs : List Int} (ho : o.op = .load t x) (ht : aggA P t = some false) (hx : ev e x = ptrTo v i 1) (hO : Own 1 H v (zs.map (AV.int k))) (hi : i < zs.length) : Light P o e H (.int k (zs.getD i 0)) (rowB v) :=
  opLoadRow ho ht hx hO hi (fun _ => rfl)
theorem opStoreRow {t s i : Nat} {x y : Operand} {u v : AV} {xs : List AV} (ho : o.op = .store t x y) (hs : sizeA P t = some s) (hx : ev e x = ptrTo v i s) (hy : ev e y = u) (hO : Own s H v xs) (hi : i < xs.length)
    (hu : u.told = true) (hl : (cells u).length = s) (h1 : (cells u).all AV.one = true) (h : ∀ G, Own s G v (xs.set i u) → Beside v H G → K .undef G) : Heavy P o e H K := by
  obtain ⟨b, q, c, rfl⟩ := hO.slc (by omega)
  exact opStoreOwn ho hs hx hy hO hi hu hl h1 h
theorem opStoreRowI {k : IntKind} {t i : Nat} {x y : Operand} {m : Int} {v : AV} {zs : List Int} (ho : o.op = .store t x y) (hs : sizeA P t = some 1) (hx : ev e x = ptrTo v i 1) (hy : ev e y = .int k m) (hO : Own 1 H v (zs.map (AV.int k))) (hi : i < zs.length)
    (h : ∀ G, Own 1 G v ((zs.set i m).map (AV.int k)) → Beside v H G → K .undef G) : Heavy P o e H K :=
  opStoreRow ho hs hx hy hO (by simpa using hi) rfl rfl rfl fun G hG hB => h G (by rw [List.map_set]; exact hG) hB
theorem opStoreRowB {t i : Nat} {x y : Operand} {m : Bool} {v : AV} {zs : List Bool} (ho : o.op = .store t x y) (hs : sizeA P t = some 1) (hx : ev e x = ptrTo v i 1) (hy : ev e y = .bool m) (hO : Own 1 H v (zs.map AV.bool)) (hi : i < zs.length)
    (h : ∀ G, Own 1 G v ((zs.set i m).map AV.bool) → Beside v H G → K .undef G) : Heavy P o e H K :=
  opStoreRow ho hs hx hy hO (by simpa using hi) rfl rfl rfl fun G hG hB => h G (by rw [List.map_set]; exact hG) hB
theorem Own.alive' {s : Nat} {v : AV} {xs : List AV} (h : Own s H v xs) : ∀ b ∈ rowB v, H b ≠ none := by
  intro b hb
  obtain ⟨h1, h2⟩ := h
  rcases h2 with ⟨rfl, h⟩ | ⟨c, q, rfl, h⟩ | ⟨c, q, cap, hi, rfl, k1, k2, k3, k4⟩
  · simp [rowB] at hb
  · simp [rowB] at hb
  · rw [rowB_mem hb, k1]; simp
end

section
variable {P : Program} {ops : Array Oper} {K : Env → Heap → Prop} {e : Env} {H : Heap} {o : Oper}
theorem ASL.callO {r : List Oper} {fo : Operand} {as : Array Operand} {ts : Array TypeId} {f : FuncId} {first caps bs : List AV} {s : Nat} {xs : List AV} {d : Nat} (hw : want ops o e = some true) (hd : o.dst = some d) (ho : o.op = .call ⟨.value fo, as, ts⟩) (hf : ev e fo = .fn (.func f) first caps)
    (hc : callable P f = true) (h : PO P f bs s xs) (hb : bs = first ++ as.toList.map (ev e) ++ caps) (k : ∀ v G, Own s G v xs → (∀ c x, H c = some x → G c = some x) → (∀ c ∈ rowB v, H c = none) → ASL P ops K r (upd e d v) G) : ASL P ops K (o :: r) e H :=
  ASL.callH hw hd ho hf hc (h.at H) hb fun v G g => k v G g.1 g.2.1 g.2.2
theorem ASL.callOR {r : List Oper} {fo : Operand} {as : Array Operand} {ts : Array TypeId} {f : FuncId} {first caps bs : List AV} {s : Nat} {xs : List AV} {d : Nat} (hw : want ops o e = some true) (hd : o.dst = some d) (ho : o.op = .call ⟨.value fo, as, ts⟩) (hf : ev e fo = .fn (.func f) first caps)
    (hc : callable P f = true) (hb : RAs H (first ++ as.toList.map (ev e) ++ caps) bs) (h : PO P f bs s xs) (hs : ∀ x ∈ flat xs, Scal x) (k : ∀ v G, Own s G v xs → (∀ c x, H c = some x → G c = some x) → (∀ c ∈ rowB v, H c = none) → ASL P ops K r (upd e d v) G) : ASL P ops K (o :: r) e H :=
  ASL.heavy hw (opCall ho hf hc (by rw [hd]; exact (h.read hb hs).mono fun v G g => k v G g.1 g.2.1 g.2.2))
theorem ASL.callRP {r : List Oper} {fo : Operand} {as : Array Operand} {ts : Array TypeId} {f : FuncId} {first caps bs : List AV} {u : AV} {d : Nat} (hw : want ops o e = some true) (hd : o.dst = some d) (ho : o.op = .call ⟨.value fo, as, ts⟩) (hf : ev e fo = .fn (.func f) first caps)
    (hc : callable P f = true) (hb : RAs H (first ++ as.toList.map (ev e) ++ caps) bs) (h : PC P f bs fun v => v = u) (hs : Scal u) (k : ASL P ops K r (upd e d u) H) : ASL P ops K (o :: r) e H :=
  ASL.callR hw hd ho hf hc h hb (fun v hv => by rw [hv]; exact hs) fun v hv => by rw [hv]; exact k
theorem ASL.callRB {r : List Oper} {fo : Operand} {as : Array Operand} {ts : Array TypeId} {f : FuncId} {first caps bs : List AV} {c : Bool} {d : Nat} (hw : want ops o e = some true) (hd : o.dst = some d) (ho : o.op = .call ⟨.value fo, as, ts⟩) (hf : ev e fo = .fn (.func f) first caps)
    (hc : callable P f = true) (hb : RAs H (first ++ as.toList.map (ev e) ++ caps) bs) (h : PC P f bs fun v => v = .bool c) (k : c = true → ASL P ops K r (upd e d (.bool true)) H) (k' : c = false → ASL P ops K r (upd e d (.bool false)) H) : ASL P ops K (o :: r) e H :=
  ASL.callRP hw hd ho hf hc hb h (.bool _) (by cases c; exact k' rfl; exact k rfl)
theorem ASL.callRD {r : List Oper} {fo : Operand} {as : Array Operand} {ts : Array TypeId} {f : FuncId} {first caps bs : List AV} {p : Prop} {q : Decidable p} {d : Nat} (hw : want ops o e = some true) (hd : o.dst = some d) (ho : o.op = .call ⟨.value fo, as, ts⟩) (hf : ev e fo = .fn (.func f) first caps)
    (hc : callable P f = true) (hb : RAs H (first ++ as.toList.map (ev e) ++ caps) bs) (h : PC P f bs fun v => v = .bool (@decide p q)) (k : p → ASL P ops K r (upd e d (.bool true)) H) (k' : ¬ p → ASL P ops K r (upd e d (.bool false)) H) : ASL P ops K (o :: r) e H :=
  ASL.callRB hw hd ho hf hc hb h (fun h => k (of_decide_eq_true h)) (fun h => k' (of_decide_eq_false h))
variable {m : Bool} {r : List (Nat × Bool × Oper)} {i : Nat} {D : List (Nat × List Nat)}
theorem ARL.callO {fo : Operand} {as : Array Operand} {ts : Array TypeId} {f : FuncId} {first caps bs : List AV} {s : Nat} {xs : List AV} {d : Nat} (hw : want ops o e = some true) (hd : o.dst = some d) (hm : m = true) (ho : o.op = .call ⟨.value fo, as, ts⟩) (hf : ev e fo = .fn (.func f) first caps)
    (hc : callable P f = true) (h : PO P f bs s xs) (hb : bs = first ++ as.toList.map (ev e) ++ caps) (k : ∀ v G, Own s G v xs → (∀ c x, H c = some x → G c = some x) → (∀ c ∈ rowB v, H c = none) → ARL P ops K r D (upd e d v) G) : ARL P ops K ((i, m, o) :: r) D e H :=
  ARL.heavyK hw hm (opCall ho hf hc (by rw [← hb, hd]; exact (h.at H).mono fun v G g => ⟨g.2.1, k v G g.1 g.2.1 g.2.2⟩))
theorem ARL.callOR {fo : Operand} {as : Array Operand} {ts : Array TypeId} {f : FuncId} {first caps bs : List AV} {s : Nat} {xs : List AV} {d : Nat} (hw : want ops o e = some true) (hd : o.dst = some d) (hm : m = true) (ho : o.op = .call ⟨.value fo, as, ts⟩) (hf : ev e fo = .fn (.func f) first caps)
    (hc : callable P f = true) (hb : RAs H (first ++ as.toList.map (ev e) ++ caps) bs) (h : PO P f bs s xs) (hs : ∀ x ∈ flat xs, Scal x) (k : ∀ v G, Own s G v xs → (∀ c x, H c = some x → G c = some x) → (∀ c ∈ rowB v, H c = none) → ARL P ops K r D (upd e d v) G) : ARL P ops K ((i, m, o) :: r) D e H :=
  ARL.heavyK hw hm (opCall ho hf hc (by rw [hd]; exact (h.read hb hs).mono fun v G g => ⟨g.2.1, k v G g.1 g.2.1 g.2.2⟩))
theorem ARL.callRP {fo : Operand} {as : Array Operand} {ts : Array TypeId} {f : FuncId} {first caps bs : List AV} {u : AV} {d : Nat} (hw : want ops o e = some true) (hd : o.dst = some d) (hm : m = true) (ho : o.op = .call ⟨.value fo, as, ts⟩) (hf : ev e fo = .fn (.func f) first caps)
    (hc : callable P f = true) (hb : RAs H (first ++ as.toList.map (ev e) ++ caps) bs) (h : PC P f bs fun v => v = u) (hs : Scal u) (k : ARL P ops K r D (upd e d u) H) : ARL P ops K ((i, m, o) :: r) D e H :=
  ARL.callR hw hd hm ho hf hc h hb (fun v hv => by rw [hv]; exact hs) fun v hv => by rw [hv]; exact k
theorem ARL.callRB {fo : Operand} {as : Array Operand} {ts : Array TypeId} {f : FuncId} {first caps bs : List AV} {c : Bool} {d : Nat} (hw : want ops o e = some true) (hd : o.dst = some d) (hm : m = true) (ho : o.op = .call ⟨.value fo, as, ts⟩) (hf : ev e fo = .fn (.func f) first caps)
    (hc : callable P f = true) (hb : RAs H (first ++ as.toList.map (ev e) ++ caps) bs) (h : PC P f bs fun v => v = .bool c) (k : c = true → ARL P ops K r D (upd e d (.bool true)) H) (k' : c = false → ARL P ops K r D (upd e d (.bool false)) H) : ARL P ops K ((i, m, o) :: r) D e H :=
  ARL.callRP hw hd hm ho hf hc hb h (.bool _) (by cases c; exact k' rfl; exact k rfl)
theorem ARL.callRD {fo : Operand} {as : Array Operand} {ts : Array TypeId} {f : FuncId} {first caps bs : List AV} {p : Prop} {q : Decidable p} {d : Nat} (hw : want ops o e = some true) (hd : o.dst = some d) (hm : m = true) (ho : o.op = .call ⟨.value fo, as, ts⟩) (hf : ev e fo = .fn (.func f) first caps)
    (hc : callable P f = true) (hb : RAs H (first ++ as.toList.map (ev e) ++ caps) bs) (h : PC P f bs fun v => v = .bool (@decide p q)) (k : p → ARL P ops K r D (upd e d (.bool true)) H) (k' : ¬ p → ARL P ops K r D (upd e d (.bool false)) H) : ARL P ops K ((i, m, o) :: r) D e H :=
  ARL.callRB hw hd hm ho hf hc hb h (fun h => k (of_decide_eq_true h)) (fun h => k' (of_decide_eq_false h))
end


section
variable {P : Program} {o : Oper} {e : Env} {H : Heap} {K : AV → Heap → Prop}
theorem opAppend1 {α : Type} {f : α → AV} {w : α} {x y : Operand} {t t' el s yb : Nat} {z : Value} {v : AV} {zs : List α} (ho : o.op = .call ⟨.builtin .append, #[x, y], #[t, t']⟩) (ht : elemA P t = some el) (ht' : t' = t) (hs : sizeA P el = some s)
    (hb : bytesA P el = some yb) (hz : zeroA P el = some z) (hzs : z.cells.size = s) (hx : ev e x = v) (hy : ev e y = .list s [f w]) (h1 : (cells (f w)).all AV.one = true) (hv : Own s H v (zs.map f))
    (hfit : (zs.length + 1) * yb ≤ 140737488355328) (h63 : zs.length + 1 ≤ 4611686018427387904)
    (h : ∀ v' G, Own s G v' ((zs ++ [w]).map f) → Beside v H G → (∀ c ∈ rowB v', c ∈ rowB v ∨ H c = none) → K v' G) : Heavy P o e H K :=
  opAppend ho ht ht' hs hb hz hzs hx hv hy (by simpa [flat] using h1) (by simpa using hfit) (by simpa using h63) (by simpa using h)
/-- A row behind a row, both of whole things. -/
theorem opAppendL {α : Type} {f : α → AV} {ws : List α} {x y : Operand} {t t' el s yb : Nat} {z : Value} {v : AV} {zs : List α} (ho : o.op = .call ⟨.builtin .append, #[x, y], #[t, t']⟩) (ht : elemA P t = some el) (ht' : t' = t) (hs : sizeA P el = some s)
    (hb : bytesA P el = some yb) (hz : zeroA P el = some z) (hzs : z.cells.size = s) (hx : ev e x = v) (hy : ev e y = .list s (ws.map f)) (h1 : ∀ w, (cells (f w)).all AV.one = true) (hv : Own s H v (zs.map f))
    (hfit : (zs.length + ws.length) * yb ≤ 140737488355328) (h63 : zs.length + ws.length ≤ 4611686018427387904)
    (h : ∀ v' G, Own s G v' ((zs ++ ws).map f) → Beside v H G → (∀ c ∈ rowB v', c ∈ rowB v ∨ H c = none) → K v' G) : Heavy P o e H K :=
  opAppend ho ht ht' hs hb hz hzs hx hv hy (by
    rw [List.all_eq_true]; intro c hc
    simp only [flat, List.mem_flatMap, List.mem_map] at hc
    obtain ⟨_, ⟨w, _, rfl⟩, hc⟩ := hc
    exact List.all_eq_true.mp (h1 w) c hc) (by simpa using hfit) (by simpa using h63) (by simpa using h)
end
section
variable {P : Program} {o : Oper} {e : Env} {H : Heap} {K : AV → Heap → Prop}
theorem opQuoN {xT yT : TypeId} {x y : Operand} {n : Int} {i m : Nat} (ho : o.op = .binOp .quo xT x y yT) (hx : ev e x = .int .i64 (i : Int)) (hy : ev e y = .int .i64 n) (hn : n = (m : Int)) (hm : 0 < m) (hi : i ≤ 9223372036854775807) : Light P o e H (.int .i64 ((i / m : Nat) : Int)) [] := by
  refine opQuo ho hx hy (by omega) ?_
  subst hn
  have : Int.tdiv (i : Int) (m : Int) = ((i / m : Nat) : Int) := by rw [Int.tdiv_eq_ediv_of_nonneg (by omega)]; simp
  have hle := Nat.div_le_self i m
  generalize i / m = q at this hle
  rw [this, wrap_ok ⟨by omega, by omega⟩]
theorem opRemN {xT yT : TypeId} {x y : Operand} {n : Int} {i m : Nat} (ho : o.op = .binOp .rem xT x y yT) (hx : ev e x = .int .i64 (i : Int)) (hy : ev e y = .int .i64 n) (hn : n = (m : Int)) (hm : 0 < m) (hi : i ≤ 9223372036854775807) : Light P o e H (.int .i64 ((i % m : Nat) : Int)) [] := by
  refine opRem ho hx hy (by omega) ?_
  subst hn
  have : Int.tmod (i : Int) (m : Int) = ((i % m : Nat) : Int) := by rw [Int.tmod_eq_emod_of_nonneg (by omega)]; simp
  rw [this]
end
/-- Two rows with no block in common. -/
def Apart (u v : AV) : Prop := ∀ c ∈ rowB u, c ∉ rowB v
theorem Apart.symm {u v : AV} (h : Apart u v) : Apart v u := fun c hc k => h c k hc
theorem Own.has {s : Nat} {H : Heap} {v : AV} {xs : List AV} (h : Own s H v xs) : ∀ b ∈ rowB v, ∃ x, H b = some x := fun b hb => by
  have := h.alive' b hb
  cases hh : H b with
  | none => exact absurd hh this
  | some x => exact ⟨x, rfl⟩
theorem Own.apart {s : Nat} {H : Heap} {u v : AV} {xs : List AV} (h : Own s H v xs) (hn : ∀ c ∈ rowB u, H c = none) : Apart u v := fun c hc k => h.alive' c k (hn c hc)
theorem Own.grow {s : Nat} {H G : Heap} {v : AV} {xs : List AV} (h : Own s H v xs) (hk : ∀ c x, H c = some x → G c = some x) : Own s G v xs :=
  h.keep fun b hb => by obtain ⟨x, hx⟩ := h.has b hb; rw [hx, hk b x hx]
theorem Own.beside {s : Nat} {H G : Heap} {u v : AV} {xs : List AV} (h : Own s H u xs) (hb : Beside v H G) (ha : Apart u v) : Own s G u xs :=
  h.keep fun b hc => by obtain ⟨x, hx⟩ := h.has b hc; rw [hx, hb b x (ha b hc) hx]
theorem Beside.trans {v : AV} {H G K : Heap} (h : Beside v H G) (k : Beside v G K) : Beside v H K := fun c x hc hx => k c x hc (h c x hc hx)
theorem Beside.refl (v : AV) (H : Heap) : Beside v H H := fun c x hc hx => hx

def marks (k : Int) (n : Nat) : List Int := (List.range n).map fun (i : Nat) => k + (i : Int)
def markL (k : Int) (i : Nat) (xs : List Int) : List Int := marks k i ++ xs.drop i
theorem marks_length (k : Int) (n : Nat) : (marks k n).length = n := by simp [marks]
theorem marks_get (k : Int) {n i : Nat} (h : i < n) : (marks k n).getD i 0 = k + i := by simp [marks, h]
theorem markL_0 (k : Int) (xs : List Int) : markL k 0 xs = xs := by simp [markL, marks]
theorem markL_length (k : Int) (xs : List Int) {i : Nat} (h : i ≤ xs.length) : (markL k i xs).length = xs.length := by simp [markL, marks]; omega
theorem markL_end (k : Int) (xs : List Int) : markL k xs.length xs = marks k xs.length := by simp [markL]
theorem markL_step (k : Int) {xs : List Int} {i : Nat} (h : i < xs.length) : (markL k i xs).set i (k + i) = markL k (i + 1) xs := by
  unfold markL
  rw [List.set_append_right _ _ (by simp [marks]), marks_length, Nat.sub_self, List.drop_eq_getElem_cons h, List.set_cons_zero]
  simp [marks, List.range_succ]

/-- Two lists are alike up to i. -/
def eqUp {α : Type} [Inhabited α] (xs ys : List α) (i : Nat) : Prop := ∀ j, j < i → xs.getD j default = ys.getD j default
theorem eqUp0 {α : Type} [Inhabited α] (xs ys : List α) : eqUp xs ys 0 := fun j h => by omega
theorem eqUp1 {α : Type} [Inhabited α] {xs ys : List α} {i : Nat} (h : eqUp xs ys i) (k : xs.getD i default = ys.getD i default) : eqUp xs ys (i + 1) := fun j hj => by
  by_cases e : j = i
  · subst e; exact k
  · exact h j (by omega)
theorem eqG_len {α : Type} [DecidableEq α] {xs ys : List α} (h : (xs.length : Int) ≠ ys.length) : false = decide (xs = ys) := by
  symm; apply decide_eq_false; rintro rfl; exact h rfl
theorem eqG_at {α : Type} [Inhabited α] [DecidableEq α] {xs ys : List α} {i : Nat} (h : xs.getD i default ≠ ys.getD i default) : false = decide (xs = ys) := by
  symm; apply decide_eq_false; rintro rfl; exact h rfl
theorem eqG_all {α : Type} [Inhabited α] [DecidableEq α] {xs ys : List α} {i : Nat} (h1 : i = xs.length) (h2 : xs.length = ys.length) (h : eqUp xs ys i) : true = decide (xs = ys) := by
  symm; apply decide_eq_true; apply List.ext_getElem h2
  intro j g1 g2; have := h j (by omega); simpa [g1, g2] using this
/-- Copying, step by step. -/
theorem copyG {α : Type} [Inhabited α] {xs : List α} {z : α} {i : Nat} (h : i < xs.length) : (xs.take i ++ List.replicate (xs.length - i) z).set i (xs.getD i default) = xs.take (i + 1) ++ List.replicate (xs.length - (i + 1)) z := by
  have h1 : (xs.take i).length = i := by simp; omega
  rw [List.set_append_right _ _ (by omega), h1, Nat.sub_self]
  have h2 : List.replicate (xs.length - i) z = z :: List.replicate (xs.length - (i + 1)) z := by
    rw [← List.replicate_succ]; congr 1; omega
  rw [h2, List.set_cons_zero, List.take_succ_eq_append_getElem h, List.append_assoc]
  simp [h]

end Go.Proofs.Ythdoebgikbfndaa.E
