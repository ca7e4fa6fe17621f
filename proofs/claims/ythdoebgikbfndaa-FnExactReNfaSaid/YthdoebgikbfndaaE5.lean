/- Rows that a call makes: literals, make, append, cuts; what becomes of them when nobody writes them any more. -/
import Derived.Test.YthdoebgikbfndaaE4
import Derived.Laws.AppendOwn
import Derived.Laws.MakeOwn
namespace Go.Proofs.Ythdoebgikbfndaa.E
open Go Go.RowKit
set_option linter.unusedVariables false

/-- A row of the call's own: xs, elements of s cells each. -/
def Own (s : Nat) (H : Heap) (v : AV) (xs : List AV) : Prop :=
  (∀ x ∈ xs, (cells x).length = s) ∧
  ((v = .nil ∧ xs = []) ∨ (∃ b o, v = .slc b o 0 0 ∧ xs = []) ∨
    ∃ b o cap hi, v = .slc b o xs.length cap ∧ H b = some ⟨o, flat xs, hi, none⟩ ∧ o + cap * s ≤ hi ∧ xs.length ≤ cap ∧ 0 < cap)

def rowB : AV → List Nat
  | .slc b _ _ cap => if cap = 0 then [] else [b]
  | _ => []

theorem rowB_mem {c b o l cap : Nat} (h : c ∈ rowB (.slc b o l cap)) : c = b := by
  unfold rowB at h
  by_cases hc : cap = 0
  · simp [hc] at h
  · simpa [hc] using h

/-- Beside the row v all stands as it stood. -/
def Beside (v : AV) (H G : Heap) : Prop := ∀ c x, c ∉ rowB v → H c = some x → G c = some x

theorem Own.nil (s : Nat) (H : Heap) : Own s H .nil [] := ⟨by simp, .inl ⟨rfl, rfl⟩⟩
theorem Own.keep {s : Nat} {H G : Heap} {v : AV} {xs : List AV} (h : Own s H v xs) (k : ∀ b, b ∈ rowB v → G b = H b) : Own s G v xs := by
  obtain ⟨h1, h2⟩ := h
  refine ⟨h1, ?_⟩
  rcases h2 with h | h | ⟨b, o, cap, hi, rfl, g1, g2, g3, g4⟩
  · exact .inl h
  · exact .inr (.inl h)
  · exact .inr (.inr ⟨b, o, cap, hi, rfl, by rw [k b (by simp [rowB]; omega)]; exact g1, g2, g3, g4⟩)

theorem V.src {ι : Imm} {w : World} (hi : ∀ b o v, ι b o = some v → w.cell? ⟨b, o, none⟩ = some v) {s : Nat} {ys : List AV} {u : Value} (h : V ι (.list s ys) u) :
    ∃ (a : Option Addr) (c : Nat) (news : List Value), u = .slice a ys.length c ∧ (a = none → ys = []) ∧ news.length = (flat ys).length ∧ (∀ p (h : p < (flat ys).length) (h' : p < news.length), V ι ((flat ys)[p]) (news[p])) ∧
      (∀ y ∈ ys, (E.cells y).length = s) ∧ ∀ b, a = some b → ∀ j v, news[j]? = some v → w.cell? (b.add j) = some v := by
  rcases h.list_inv with ⟨rfl, a, c, rfl⟩ | ⟨b, q, cap, vs, rfl, hss, hc, f1, f2⟩
  · exact ⟨a, c, [], rfl, fun _ => rfl, rfl, fun p h => by simp [flat] at h, by simp, by simp⟩
  · refine ⟨_, cap, (List.range (flat ys).length).map vs, rfl, by simp, by simp, fun p h h' => by simpa using f2 p h, hss, ?_⟩
    intro a ha j v hj
    cases ha
    obtain ⟨hj1, hj2⟩ := List.getElem?_eq_some_iff.mp hj
    have : j < (flat ys).length := by simpa using hj1
    rw [Addr_add]
    have := hi _ _ _ (f1 j this)
    simp at hj2
    rw [← hj2]; exact this

/-- What an owned row holds, to be copied. -/
theorem Own.src {B : Base} {ι : Imm} {H : Heap} {w : World} (hr : Rel B ι H w) {s : Nat} {v : AV} {ys : List AV} (hO : Own s H v ys) {u : Value} (h : V ι v u) :
    ∃ (a : Option Addr) (c : Nat) (news : List Value), u = .slice a ys.length c ∧ (a = none → ys = []) ∧ news.length = (flat ys).length ∧ (∀ p (h : p < (flat ys).length) (h' : p < news.length), V ι ((flat ys)[p]) (news[p])) ∧
      (∀ y ∈ ys, (E.cells y).length = s) ∧ ∀ b, a = some b → ∀ j v, news[j]? = some v → w.cell? (b.add j) = some v := by
  obtain ⟨hss, hO⟩ := hO
  rcases hO with ⟨rfl, rfl⟩ | ⟨b, q, rfl, rfl⟩ | ⟨b, q, cap, hi', rfl, hH, hcap, hle, hc0⟩
  · exact ⟨none, 0, [], h.nil_inv, fun _ => rfl, rfl, fun p h => by simp [flat] at h, by simp, by simp⟩
  · exact ⟨_, 0, [], h.slc_inv, fun _ => rfl, rfl, fun p h => by simp [flat] at h, by simp, by simp⟩
  · have hc := hr.cell b _ hH
    let g : Nat → Value := fun p => if k : p < (flat ys).length then Classical.choose (hc p k) else Go.undef
    have hg : ∀ p (k : p < (flat ys).length), w.cell? ⟨b, q + p, none⟩ = some (g p) ∧ V ι ((flat ys)[p]) (g p) := fun p k => by
      have := Classical.choose_spec (hc p k)
      simp only [g, dif_pos k]; exact this
    refine ⟨_, cap, (List.range (flat ys).length).map g, h.slc_inv, by simp, by simp, fun p k k' => by simpa using (hg p k).2, hss, ?_⟩
    intro a ha j v hj
    cases ha
    obtain ⟨hj1, hj2⟩ := List.getElem?_eq_some_iff.mp hj
    have : j < (flat ys).length := by simpa using hj1
    rw [Addr_add]
    simp at hj2
    rw [← hj2]; exact (hg j this).1

theorem all_one {l : List AV} (h : l.all AV.one = true) {p : Nat} (hp : p < l.length) : (l[p]).one = true := List.all_eq_true.mp h _ (List.getElem_mem hp)

theorem run_storeExt {P : Program} {B : Base} {ι : Imm} {b : Nat} : ∀ (us : List Value) (vs : List AV) (H : Heap) (w : World) (x : Blk) (i p : Nat), Rel B ι H w → H b = some x → us.length = vs.length →
    (∀ q (h : q < vs.length) (h' : q < us.length), V ι (vs[q]) (us[q]) ∧ (vs[q]).one = true) → p + i = x.cs.length → x.lo + p + i + vs.length ≤ x.hi →
    ∃ w', (storeCells ⟨b, x.lo + p, none⟩ us i).run P w = .ok () w' ∧ Rel B ι (H.set b ⟨x.lo, x.cs ++ vs, x.hi, x.ob⟩) w'
  | [], vs, H, w, x, i, p, hr, hb, hl, hv, hs, hh => by
    cases vs with
    | nil =>
      refine ⟨w, rfl, ?_⟩
      have : H.set b ⟨x.lo, x.cs ++ [], x.hi, x.ob⟩ = H := by
        funext c; unfold Heap.set; split
        · rename_i h; subst h; rw [hb, List.append_nil]
        · rfl
      rw [this]; exact hr
    | cons v r => simp at hl
  | u :: us, vs, H, w, x, i, p, hr, hb, hl, hv, hs, hh => by
    cases vs with
    | nil => simp at hl
    | cons v vs =>
      have h0 := hv 0 (by simp) (by simp)
      simp only [List.getElem_cons_zero] at h0
      simp only [List.length_cons] at hh hl
      have hst := run_store1 (P := P) hr hb h0.1 h0.2 (p := p + i) (by omega)
      have hr' := hr.store hb h0.1 (p := p + i) (x.cs ++ [v]) (by omega) (by simp; omega) (fun q h => by
        by_cases hq : q = p + i
        · subst hq; exact .inl ⟨rfl, by simp [hs]⟩
        · have : q < x.cs.length := by simp at h; omega
          exact .inr ⟨hq, this, by rw [List.getElem_append_left this]⟩)
      obtain ⟨w', g1, g2⟩ := run_storeExt us vs _ _ ⟨x.lo, x.cs ++ [v], x.hi, x.ob⟩ (i + 1) p hr' (Heap.set_same _ _ _) (by omega)
        (fun q h h' => by have := hv (q + 1) (by simp; omega) (by simp; omega); simpa using this) (by simp; omega) (by simp; omega)
      refine ⟨w', ?_, ?_⟩
      · simp only [storeCells, Sem.run_bind]
        rw [Addr_add, Nat.add_assoc, hst]
        simpa using g1
      · rw [Heap.set_set] at g2
        simp only [List.append_assoc, List.singleton_append] at g2
        exact g2

theorem infoA {P : Program} {t s y : Nat} {z : Value} (hs : sizeA P t = some s) (hy : bytesA P t = some y) (hz : zeroA P t = some z) : ∃ i, P.info? t = some i ∧ i.size = s ∧ i.bytes = y ∧ i.zero = some z := by
  unfold sizeA at hs
  unfold bytesA at hy
  unfold zeroA at hz
  cases hi : P.info? t with
  | none => rw [hi] at hs; simp at hs
  | some i =>
    rw [hi] at hs hy hz
    exact ⟨i, rfl, by simpa using hs, by simpa using hy, by simpa using hz⟩

section
variable {P : Program} {o : Oper} {e : Env} {H : Heap} {K : AV → Heap → Prop}

/-- A new block whose first cells are told. -/
theorem Rel.row {B : Base} {ι : Imm} {w : World} {s : Nat} (hr : Rel B ι H w) (cs : Array Value) (t : TypeId) (xs : List AV) (cap : Nat) (hx : ∀ x ∈ xs, (cells x).length = s) (hn : xs.length ≤ cap) (hc : cs.size = cap * s) (h0 : 0 < cap)
    (hv : ∀ p (h : p < (flat xs).length), V ι ((flat xs)[p]) (cs.getD p Go.undef)) :
    Rel B ι (H.set w.heap.size ⟨0, flat xs, cap * s, none⟩) (w.alloc (.cells cs t)) ∧ Own s (H.set w.heap.size ⟨0, flat xs, cap * s, none⟩) (.slc w.heap.size 0 xs.length cap) xs := by
  have hl := flat_length hx
  have := hr.alloc cs t (flat xs) (by rw [hl, hc]; exact Nat.mul_le_mul_right _ hn) hv
  rw [hc] at this
  exact ⟨this, hx, .inr (.inr ⟨_, 0, cap, cap * s, rfl, Heap.set_same _ _ _, by omega, hn, h0⟩)⟩

theorem opAppendG {x y : Operand} {t t' el s yb : Nat} {z : Value} {v : AV} {xs ys : List AV} (ho : o.op = .call ⟨.builtin .append, #[x, y], #[t, t']⟩) (ht : elemA P t = some el) (ht' : t' = t) (hs : sizeA P el = some s)
    (hb : bytesA P el = some yb) (hz : zeroA P el = some z) (hzs : z.cells.size = s) (hx : ev e x = v) (hv : Own s H v xs) (hsrc : ∀ {B : Base} {ι : Imm} {w : World} {u : Value}, Rel B ι H w → V ι (ev e y) u → ∃ (a : Option Addr) (c : Nat) (news : List Value), u = .slice a ys.length c ∧ (a = none → ys = []) ∧ news.length = (flat ys).length ∧ (∀ p (h : p < (flat ys).length) (h' : p < news.length), V ι ((flat ys)[p]) (news[p])) ∧
      (∀ y ∈ ys, (E.cells y).length = s) ∧ ∀ b, a = some b → ∀ j v, news[j]? = some v → w.cell? (b.add j) = some v) (h1 : (flat ys).all AV.one = true)
    (hfit : (xs.length + ys.length) * yb ≤ 140737488355328) (h63 : xs.length + ys.length ≤ 4611686018427387904)
    (h : ∀ v' G, Own s G v' (xs ++ ys) → Beside v H G → (∀ c ∈ rowB v', c ∈ rowB v ∨ H c = none) → K v' G) : Heavy P o e H K := by
  subst ht'
  intro e' he B ι a w n hr hE next Q hk
  have g1 := hE.ev x
  have g2 := hE.ev y
  rw [he x (by simp [ho, Op.operands, Call.operands]), hx] at g1
  rw [he y (by simp [ho, Op.operands, Call.operands])] at g2
  obtain ⟨i, hi, rfl, rfl, hiz⟩ := infoA hs hb hz
  have hu := elemA_spec ht
  obtain ⟨sa, sc, news, hyv, hnil, hnl, hnv, hys, hncell⟩ := hsrc hr g2
  obtain ⟨hxs, hv⟩ := hv
  have hyl := flat_length hys
  have hxl := flat_length hxs
  have hboth : ∀ z ∈ xs ++ ys, (cells z).length = i.size := by
    intro z hz
    rcases List.mem_append.mp hz with h | h
    · exact hxs z h
    · exact hys z h
  have hop : ∀ r w', (Builtin.append_ #[t', t'] o.type #[a.eval x, a.eval y]).run P w = .ok r w' → (execOp a.eval o).run P w = .ok (.value r) w' := by
    intro r w' h
    simp [execOp, ho, resolve, invoke, builtin, h]
  unfold Oper.wp
  by_cases hy0 : ys = []
  · -- nothing is appended
    subst hy0
    have hnews : news = [] := List.eq_nil_of_length_eq_zero (by simpa [flat] using hnl)
    subst hnews
    have hlast : ∀ (r : Value), V ι v r → a.eval x = r → (∃ b n c, r = .slice b n c ∧ n ≤ c) → (execOp a.eval o).run P w = .ok (.value r) w := by
      rintro r hvr hr' ⟨b, n, c, rfl, hnc⟩
      apply hop
      rw [hr', hyv]
      cases sa <;> cases b <;> simp [Builtin.append_, run_underlying hu, sizeOf, typeInfo, hi, Builtin.lenOf, Builtin.firstCells, loadCells, loadCellsFrom, hnc, storeCells]
    have hgo : ∃ b n c, a.eval x = .slice b n c ∧ n ≤ c := by
      rcases hv with ⟨rfl, _⟩ | ⟨b, q, rfl, _⟩ | ⟨b, q, cap, hi', rfl, _, _, hle, _⟩
      · exact ⟨none, 0, 0, g1.nil_inv, by omega⟩
      · exact ⟨_, 0, 0, g1.slc_inv, by omega⟩
      · exact ⟨_, _, _, g1.slc_inv, hle⟩
    rw [hlast _ g1 rfl hgo]
    refine hk v _ w ι H (h v H ⟨by simpa using hxs, by simpa using hv⟩ (fun c x _ h => h) (fun c h => .inl h)) g1 (Imm.le_refl _) hr
  · have hyn : 0 < ys.length := List.length_pos_iff.mpr hy0
    obtain ⟨ad, rfl⟩ : ∃ ad, sa = some ad := by
      cases sa with
      | none => exact absurd (hnil rfl) hy0
      | some ad => exact ⟨ad, rfl⟩
    have hcells := hncell ad rfl
    have hnl' : news.length = ys.length * i.size := by rw [hnl, hyl]
    -- a new row
    have fresh : ∀ (olds : List Value) (G : Heap) (old : Nat), olds.length = xs.length * i.size → (∀ p (h : p < (flat xs).length) (h' : p < olds.length), V ι ((flat xs)[p]) (olds[p])) → Rel B ι G w → old < xs.length + ys.length →
        (∀ c x, c ∉ rowB v → H c = some x → G c = some x) → G w.heap.size = none → H w.heap.size = none → (∀ c, c ∈ rowB v → G c = none) →
        next (a.put o.dst (.slice (some ⟨w.heap.size, 0, none⟩) (xs.length + ys.length) (grownCap w (xs.length + ys.length) old el)))
          (w.drew.alloc (.cells (olds.toArray ++ news.toArray ++ Builtin.zeroCells z.cells (grownCap w (xs.length + ys.length) old el - (xs.length + ys.length))) el)) := by
      intro olds G old hol hov hG hold hbes hfr hfrH hdel
      have hge := grownCap_ge w (xs.length + ys.length) old el
      have hrow := Rel.row (H := G) (s := i.size) hG.drew (olds.toArray ++ news.toArray ++ Builtin.zeroCells z.cells (grownCap w (xs.length + ys.length) old el - (xs.length + ys.length))) el (xs ++ ys) (grownCap w (xs.length + ys.length) old el) hboth
        (by simpa using hge) (by
          simp only [Array.size_append, List.size_toArray, size_zeroCells, hzs, hol, hnl', ← Nat.add_mul]
          congr 1; omega) (by omega) (fun p hp => by
          rw [flat_append] at hp
          simp only [flat_append]
          have hp' : p < (flat xs).length + (flat ys).length := by simpa using hp
          rw [getD_lt _ _ (by simp; omega)]
          by_cases hpx : p < (flat xs).length
          · rw [List.getElem_append_left hpx, Array.getElem_append_left (by simp; omega), Array.getElem_append_left (by simp; omega)]
            simpa using hov p hpx (by omega)
          · rw [List.getElem_append_right (by omega), Array.getElem_append_left (by simp; omega), Array.getElem_append_right (by simp; omega)]
            have hol' : olds.length = (flat xs).length := by omega
            have := hnv (p - (flat xs).length) (by omega) (by omega)
            simpa [hol'] using this)
      obtain ⟨hr2, hown⟩ := hrow
      have hsz : (xs ++ ys).length = xs.length + ys.length := by simp
      rw [hsz] at hown
      refine hk (.slc w.heap.size 0 (xs.length + ys.length) (grownCap w (xs.length + ys.length) old el)) _ _ ι _ (h _ _ (by rw [← hsz] at hown ⊢; exact hown) ?_ ?_) (.slc _ _ _ _) (Imm.le_refl _) hr2
      · intro c q hc hq
        have hcw : c ≠ w.heap.size := by intro k; subst k; rw [hfrH] at hq; exact absurd hq (by simp)
        show (G.set w.heap.size _) c = some q
        rw [Heap.set_ne _ _ hcw]
        exact hbes c q hc hq
      · intro c hc
        rw [rowB_mem hc]; exact .inr hfrH
    rcases hv with ⟨rfl, rfl⟩ | ⟨b, q, rfl, rfl⟩ | ⟨b, q, cap, hi', rfl, hH, hcap, hle, hc0⟩
    · have := run_append_nil (P := P) w t' o.type el i z hu hi hiz ad ys.length sc news hnl' hcells hyn (by omega) (by simp at hfit; omega)
      have h2 := hop _ _ (by rw [g1.nil_inv, hyv]; exact this)
      rw [h2]
      have := fresh [] H 0 (by simp) (fun p h => by simp [flat] at h) hr (by omega) (fun c x _ h => h) hr.fresh hr.fresh (by simp [rowB])
      rw [Oper.upon_value]
      simpa using this
    · have hne : ∀ j v, ([] : List Value)[j]? = some v → w.cell? ((⟨b, q, none⟩ : Addr).add j) = some v := by simp
      have := run_append_grow (P := P) w t' o.type el i z hu hi hiz ⟨b, q, none⟩ 0 0 [] (by simp) hne ad ys.length sc news hnl' hcells (by omega) (by simp at h63; omega)
        (growslice_fits (by omega) (by simpa using hfit))
      have h2 := hop _ _ (by rw [g1.slc_inv, hyv]; exact this)
      rw [h2]
      exact fresh [] H 0 (by simp) (fun p h => by simp [flat] at h) hr (by simp; omega) (fun c x _ h => h) hr.fresh hr.fresh (by simp [rowB])
    · have hcell := hr.cell b _ hH
      simp only at hcell
      by_cases hroom : xs.length + ys.length ≤ cap
      · obtain ⟨w', r1, r2⟩ := run_storeExt (P := P) news (flat ys) H w ⟨q, flat xs, hi', none⟩ 0 (flat xs).length hr hH hnl (fun p h h' => ⟨hnv p h h', all_one h1 h⟩) (by simp) (by
          simp only [hxl, hyl]
          have : (xs.length + ys.length) * i.size ≤ cap * i.size := Nat.mul_le_mul_right _ hroom
          rw [Nat.add_mul] at this
          omega)
        have hf := run_firstCells_some (P := P) w i.size ys.length ad ys.length sc news hnl' hcells
        have h2 : (execOp a.eval o).run P w = .ok (.value (.slice (some ⟨b, q, none⟩) (xs.length + ys.length) cap)) w' := by
          apply hop
          rw [g1.slc_inv, hyv]
          simp only [hxl] at r1
          simp [Builtin.append_, run_underlying hu, sizeOf, typeInfo, hi, Builtin.lenOf, hroom, hf, Addr_add, r1]
        rw [h2]
        have hsz : (xs ++ ys).length = xs.length + ys.length := by simp
        refine hk (.slc b q (xs.length + ys.length) cap) _ w' ι _ (h _ _ ⟨hboth, .inr (.inr ⟨b, q, cap, hi', by rw [hsz], by rw [Heap.set_same, flat_append], hcap, by omega, hc0⟩)⟩ ?_ ?_) (.slc _ _ _ _) (Imm.le_refl _) r2
        · intro c y hc hy
          rw [Heap.set_ne]
          · exact hy
          · intro k; subst k; exact hc (by simp [rowB]; omega)
        · intro c hc
          exact .inl (by simpa [rowB] using hc)
      · have hov : ∃ olds : List Value, olds.length = (flat xs).length ∧ (∀ p (h : p < (flat xs).length) (h' : p < olds.length), V ι ((flat xs)[p]) (olds[p])) ∧ ∀ j v, olds[j]? = some v → w.cell? ((⟨b, q, none⟩ : Addr).add j) = some v := by
          refine ⟨(List.range (flat xs).length).map fun p => (w.cell? ⟨b, q + p, none⟩).getD Go.undef, by simp, fun p h h' => ?_, fun j v hj => ?_⟩
          · obtain ⟨u, k1, k2⟩ := hcell p h
            simpa [k1] using k2
          · obtain ⟨hj1, hj2⟩ := List.getElem?_eq_some_iff.mp hj
            have hj3 : j < (flat xs).length := by simpa using hj1
            obtain ⟨u, k1, k2⟩ := hcell j hj3
            simp [k1] at hj2
            rw [Addr_add, ← hj2]; exact k1
        obtain ⟨olds, hol, hovv, hoc⟩ := hov
        have := run_append_grow (P := P) w t' o.type el i z hu hi hiz ⟨b, q, none⟩ xs.length cap olds (by rw [hol, hxl]) hoc ad ys.length sc news hnl' hcells (by omega) (by omega) (growslice_fits (by omega) hfit)
        have h2 := hop _ _ (by rw [g1.slc_inv, hyv]; exact this)
        rw [h2]
        have hbw := (hr.lo b _ hH).2.1
        refine fresh olds (H.del b) cap (by rw [hol, hxl]) hovv (hr.less (fun c y h => ?_)) (by omega) (fun c y hc hy => ?_) ?_ hr.fresh (fun c hc => ?_)
        · unfold Heap.del at h; split at h
          · exact absurd h (by simp)
          · exact h
        · rw [Heap.del_ne]
          · exact hy
          · intro k; subst k; exact hc (by simp [rowB]; omega)
        · rw [Heap.del_ne _ (by omega)]; exact hr.fresh
        · rw [rowB_mem hc]; exact Heap.del_same _ _

theorem opAppend {x y : Operand} {t t' el s yb : Nat} {z : Value} {v : AV} {xs ys : List AV} (ho : o.op = .call ⟨.builtin .append, #[x, y], #[t, t']⟩) (ht : elemA P t = some el) (ht' : t' = t) (hs : sizeA P el = some s)
    (hb : bytesA P el = some yb) (hz : zeroA P el = some z) (hzs : z.cells.size = s) (hx : ev e x = v) (hv : Own s H v xs) (hy : ev e y = .list s ys) (h1 : (flat ys).all AV.one = true)
    (hfit : (xs.length + ys.length) * yb ≤ 140737488355328) (h63 : xs.length + ys.length ≤ 4611686018427387904)
    (h : ∀ v' G, Own s G v' (xs ++ ys) → Beside v H G → (∀ c ∈ rowB v', c ∈ rowB v ∨ H c = none) → K v' G) : Heavy P o e H K :=
  opAppendG ho ht ht' hs hb hz hzs hx hv (fun hr g => by rw [hy] at g; exact g.src hr.imm) h1 hfit h63 h
theorem madeCells_get (z : Array Value) (n p : Nat) (h : p < n) : (madeCells z n).getD p Go.undef = z[p % z.size]! := by
  rw [getD_lt _ _ (by simpa [madeCells] using h)]
  simp [madeCells]

/-- A row of zeros. -/
def zerosA (z : Value) (s n : Nat) : List AV := List.replicate n (if s = 1 then avOf z else avOf z)

theorem opMake {t el s yb : Nat} {z : Value} {zv : AV} {l c : Operand} {k k' : IntKind} {m : Int} (ho : o.op = .makeSlice t l c) (ht : elemA P t = some el) (hs : sizeA P el = some s) (hb : bytesA P el = some yb) (hz : zeroA P el = some z)
    (hzv : avOf z = zv) (hzs : z.cells.size = s) (hpos : 0 < s) (hl : ev e l = .int k m) (hc : ev e c = .int k' m) (h0 : 0 ≤ m) (hfit : (yb : Int) * m ≤ 281474976710656) (h63 : m ≤ 9223372036854775807)
    (h : ∀ v G, Own s G v (List.replicate m.toNat zv) → (∀ c x, H c = some x → G c = some x) → (∀ c ∈ rowB v, H c = none) → (∃ b c, v = .slc b 0 m.toNat c) → K v G) : Heavy P o e H K := by
  intro e' he B ι a w n hr hE next Q hk
  have g1 := hE.ev l
  have g2 := hE.ev c
  rw [he l (by simp [ho, Op.operands]), hl] at g1
  rw [he c (by simp [ho, Op.operands]), hc] at g2
  obtain ⟨i, hi, rfl, rfl, hiz⟩ := infoA hs hb hz
  unfold Oper.wp
  have hrun := run_make (P := P) w t el i z (elemA_spec ht) hi hiz k k' m m h0 (Int.le_refl _) hfit h63
  have : (execOp a.eval o).run P w = .ok (.value (.slice (some ⟨w.heap.size, 0, none⟩) m.toNat m.toNat)) (w.alloc (.cells (madeCells z.cells (m.toNat * i.size)) el)) := by
    simp [execOp, ho, g1.int_inv, g2.int_inv, hrun]
  rw [this]
  have hzl : (cells zv).length = i.size := by rw [← hzv, ← avOf_size, hzs]
  have hx : ∀ x ∈ List.replicate m.toNat zv, (cells x).length = i.size := fun x hx => by rw [List.eq_of_mem_replicate hx]; exact hzl
  have hsz : (madeCells z.cells (m.toNat * i.size)).size = m.toNat * i.size := size_madeCells _ _
  by_cases hm : m.toNat = 0
  · rw [hm]
    refine hk (.slc w.heap.size 0 0 0) _ _ ι (H.set w.heap.size ⟨0, [], (madeCells z.cells (0 * i.size)).size, none⟩) (h _ _ (by simp only [hm, List.replicate_zero]; exact ⟨by simp, .inr (.inl ⟨_, _, rfl, rfl⟩)⟩) (fun c x hx => Heap.keep hr.fresh hx) (by simp [rowB]) ⟨_, _, by rw [hm]⟩) (.slc _ _ _ _) (Imm.le_refl _)
      (hr.alloc _ el [] (by simp) (fun p h => by simp at h))
  · have hrow := Rel.row (s := i.size) hr (madeCells z.cells (m.toNat * i.size)) el (List.replicate m.toNat zv) m.toNat hx (by simp) hsz (by omega) (fun p hp => by
      have hp' : p < m.toNat * i.size := by rw [flat_length hx] at hp; simpa using hp
      rw [madeCells_get _ _ _ hp', hzs]
      have hmod : p % i.size < i.size := Nat.mod_lt _ hpos
      have hq : (flat (List.replicate m.toNat zv))[p]? = (cells zv)[p % i.size]? := by
        have hd := Nat.div_add_mod p i.size
        have hlt : p / i.size < m.toNat := Nat.div_lt_of_lt_mul (by rw [Nat.mul_comm]; exact hp')
        have := flat_get hx (p / i.size) zv (by simp [hlt]) (p % i.size) hmod
        rw [← this]; congr 1; rw [Nat.mul_comm]; exact hd.symm
      have hq2 : (flat (List.replicate m.toNat zv))[p] = (cells zv)[p % i.size]'(by omega) := by
        rw [List.getElem?_eq_getElem hp, List.getElem?_eq_getElem (by omega)] at hq
        exact Option.some.inj hq
      rw [hq2]
      subst hzv
      have hc := avOf_cells ι z (p % i.size) (by omega)
      have he : z.cells.getD (p % i.size) Go.undef = z.cells[p % i.size]! := by
        rw [getD_lt _ _ (by omega), getElem!_pos _ _ (by omega)]
      rw [he] at hc; exact hc)
    obtain ⟨hr2, hown⟩ := hrow
    simp only [List.length_replicate] at hown
    refine hk (.slc w.heap.size 0 m.toNat m.toNat) _ _ ι _ (h _ _ (by simpa using hown) (fun c x hx => Heap.keep hr.fresh hx) (fun c hc => ?_) ⟨_, _, rfl⟩) (.slc _ _ _ _) (Imm.le_refl _) hr2
    rw [rowB_mem hc]; exact hr.fresh

/-- A literal of a slice, all of whose elements are told in order. -/
theorem run_fill {s : Nat} (place : Nat → Option (Nat × Nat)) (hplace : ∀ i, place i = some (i * s, s)) : ∀ (us : List (Nat × Value)) (cs : Array Value) (k m : Nat), us.map (·.1) = (List.range us.length).map (k + ·) → (∀ u ∈ us, u.2.cells.size = s) → cs.size = m * s → k + us.length ≤ m →
    ∃ ds, Instr.fill place cs us = some ds ∧ ds.size = cs.size ∧ (∀ p, p < k * s → ds.getD p Go.undef = cs.getD p Go.undef) ∧
      ∀ j (h : j < us.length) q, q < s → ds.getD ((k + j) * s + q) Go.undef = (us[j]).2.cells.getD q Go.undef
  | [], cs, k, m, _, _, _, _ => ⟨cs, rfl, rfl, fun _ _ => rfl, fun j h => by simp at h⟩
  | (i, v) :: us, cs, k, m, hi, hs, hc, hk => by
    have hik : i = k := by
      have := congrArg List.head? hi
      simp [List.range_succ_eq_map] at this
      exact this
    subst hik
    have hvs : v.cells.size = s := hs (i, v) List.mem_cons_self
    have hfold : ∀ (l : List Value) (off : Nat) (cs : Array Value), off + l.length ≤ cs.size →
        (l.zipIdx.foldl (fun cs (c : Value × Nat) => cs.setIfInBounds (off + c.2) c.1) cs).size = cs.size ∧
        (∀ p, p < off → (l.zipIdx.foldl (fun cs (c : Value × Nat) => cs.setIfInBounds (off + c.2) c.1) cs).getD p Go.undef = cs.getD p Go.undef) ∧
        ∀ q (h : q < l.length), (l.zipIdx.foldl (fun cs (c : Value × Nat) => cs.setIfInBounds (off + c.2) c.1) cs).getD (off + q) Go.undef = l[q] := by
      have gen : ∀ (l : List Value) (off n0 : Nat) (cs : Array Value), off + n0 + l.length ≤ cs.size →
          ((l.zipIdx n0).foldl (fun cs (c : Value × Nat) => cs.setIfInBounds (off + c.2) c.1) cs).size = cs.size ∧
          (∀ p, p < off + n0 → ((l.zipIdx n0).foldl (fun cs (c : Value × Nat) => cs.setIfInBounds (off + c.2) c.1) cs).getD p Go.undef = cs.getD p Go.undef) ∧
          ∀ q (h : q < l.length), ((l.zipIdx n0).foldl (fun cs (c : Value × Nat) => cs.setIfInBounds (off + c.2) c.1) cs).getD (off + n0 + q) Go.undef = l[q] := by
        intro l
        induction l with
        | nil => intro off n0 cs h; exact ⟨rfl, fun _ _ => rfl, fun q h => by simp at h⟩
        | cons x l ih =>
          intro off n0 cs h
          simp only [List.length_cons] at h
          obtain ⟨i1, i2, i3⟩ := ih off (n0 + 1) (cs.setIfInBounds (off + n0) x) (by simp; omega)
          simp only [List.zipIdx_cons, List.foldl_cons]
          refine ⟨by rw [i1]; simp, fun p hp => ?_, fun q hq => ?_⟩
          · rw [i2 p (by omega)]
            simp only [Array.getD_eq_getD_getElem?]
            rw [Array.getElem?_setIfInBounds_ne (by omega)]
          · cases q with
            | zero =>
              rw [i2 _ (by omega), Nat.add_zero, getD_lt _ _ (by simp; omega)]
              simp
            | succ q =>
              have := i3 q (by simpa using hq)
              simp only [List.getElem_cons_succ]
              rw [← this]; congr 1; omega
      intro l off cs h
      have := gen l off 0 cs (by simpa using h)
      simpa using this
    obtain ⟨f1, f2, f3⟩ := hfold v.cells.toList (i * s) cs (by
      simp only [Array.length_toList, hvs, hc]
      have : (i + 1) * s ≤ m * s := Nat.mul_le_mul_right _ (by simp at hk; omega)
      rw [Nat.add_mul] at this; omega)
    have hmap : us.map (·.1) = (List.range us.length).map ((i + 1) + ·) := by
      have := congrArg List.tail hi
      simp only [List.map_cons, List.tail_cons, List.length_cons, List.range_succ_eq_map, List.map_map] at this
      rw [this]
      apply List.map_congr_left
      intro a _
      simp; omega
    obtain ⟨ds, d1, d2, d3, d4⟩ := run_fill place hplace us (v.cells.toList.zipIdx.foldl (fun cs (c : Value × Nat) => cs.setIfInBounds (i * s + c.2) c.1) cs) (i + 1) m hmap (fun u hu => hs u (List.mem_cons_of_mem _ hu)) (by rw [f1]; exact hc) (by simp at hk; omega)
    refine ⟨ds, ?_, by rw [d2, f1], fun p hp => ?_, fun j hj q hq => ?_⟩
    · unfold Instr.fill
      rw [hplace]
      simp only
      rw [if_neg]
      · rw [← d1]
        congr 1
        rw [← Array.foldl_toList, Array.toList_zipIdx]
      · simp only [Bool.or_eq_true, decide_eq_true_eq, not_or, Nat.not_lt]
        refine ⟨by simp [hvs], ?_⟩
        rw [hvs, hc]
        have : (i + 1) * s ≤ m * s := Nat.mul_le_mul_right _ (by simp at hk; omega)
        rw [Nat.add_mul] at this; omega
    · rw [d3 p (by rw [Nat.add_mul]; omega), f2 p hp]
    · cases j with
      | zero =>
        rw [Nat.add_zero, d3 _ (by rw [Nat.add_mul]; omega), f3 q (by simpa [hvs] using hq)]
        simp only [List.getElem_cons_zero]
        rw [getD_lt _ _ (by omega)]; simp
      | succ j =>
        have := d4 j (by simpa using hj) q hq
        simp only [List.getElem_cons_succ]
        rw [show i + (j + 1) = i + 1 + j by omega]; exact this

/-- The elements of a literal. -/
theorem opBuildSlice {t el s : Nat} {len : Nat} {parts : Array (Nat × Operand)} {z : Value} {xs : List AV} (ho : o.op = .buildSlice t len parts) (ht : elemA P t = some el) (hs : sizeA P el = some s) (hz : zeroA P el = some z) (hzs : z.cells.size = s)
    (hp : parts.toList.map (·.1) = List.range len) (hx : parts.toList.map (fun p => ev e p.2) = xs) (hxs : xs.all AV.told = true) (hc : ∀ x ∈ xs, (cells x).length = s) (hbig : len * s ≤ 16777216)
    (h : ∀ v G, Own s G v xs → (∀ c x, H c = some x → G c = some x) → (∀ c ∈ rowB v, H c = none) → (∃ b c, v = .slc b 0 len c) → K v G)
    : Heavy P o e H K := by
  intro e' he B ι a w n hr hE next Q hk
  have hxl : xs.length = len := by rw [← hx]; have := congrArg List.length hp; simpa using this
  have hval : ∀ j (hj : j < parts.size), V ι (xs[j]'(by rw [hxl, ← (by have := congrArg List.length hp; simpa using this : parts.size = len)]; exact hj)) (a.eval (parts[j]).2) := by
    intro j hj
    have h1 := hE.ev (parts[j]).2
    rw [he _ (by
      simp only [ho, Op.operands]
      rw [← Array.mem_toList_iff]
      simp only [List.mem_map]
      exact ⟨parts[j], by simp [Array.getElem_mem], rfl⟩)] at h1
    subst hx
    simpa using h1
  have hps : parts.size = len := by have := congrArg List.length hp; simpa using this
  let us : List (Nat × Value) := (parts.map (fun (i, x) => (i, a.eval x))).toList
  have hus : us.length = len := by simp [us, hps]
  have hmap : us.map (·.1) = (List.range us.length).map (0 + ·) := by
    rw [hus]
    simp only [us, Array.toList_map, List.map_map]
    rw [show (List.range len).map (0 + ·) = List.range len by simp, ← hp]
    rfl
  have hcell : ∀ u ∈ us, u.2.cells.size = s := by
    intro u hu
    simp only [us, Array.toList_map, List.mem_map] at hu
    obtain ⟨p, hp1, rfl⟩ := hu
    obtain ⟨j, hj, rfl⟩ := List.getElem_of_mem hp1
    have hj' : j < parts.size := by simpa using hj
    have hv := hval j hj'
    have hjx : j < xs.length := by omega
    have ht' : (xs[j]).told = true := List.all_eq_true.mp hxs _ (List.getElem_mem hjx)
    have := (hv.cells ht').1
    rw [hc _ (List.getElem_mem hjx)] at this
    simpa using this
  let zero : Array Value := if len * s = 0 then #[] else z.cells
  obtain ⟨ds, d1, d2, d3, d4⟩ := run_fill (s := s) (fun i => some (i * s, s)) (fun _ => rfl) us ((Array.range (len * s)).map (zero[· % zero.size]!)) 0 len hmap hcell (by simp) (by omega)
  have hrun : (execOp a.eval o).run P w = .ok (.value (.slice (some ⟨w.heap.size, 0, none⟩) len len)) (w.alloc (.cells ds el)) := by
    have hbig' : ¬ (len * s > 2 ^ 24) := by omega
    have d1' : Instr.fill (fun i => some (i * s, s)) ((Array.range (len * s)).map (zero[· % zero.size]!)) (parts.map (fun (i, x) => (i, a.eval x))).toList = some ds := d1
    by_cases h0 : len * s = 0
    · simp only [zero, h0, if_true] at d1'
      simp only [execOp, ho, Instr.buildSlice, Sem.run_bind, run_underlying (elemA_spec ht), Result.andThen_ok, run_sizeOf hs]
      rw [if_neg hbig']
      simp only [h0, if_true]
      simp at d1'
      simp [d1', newRow]
    · simp only [zero, h0, if_false] at d1'
      simp only [execOp, ho, Instr.buildSlice, Sem.run_bind, run_underlying (elemA_spec ht), Result.andThen_ok, run_sizeOf hs]
      rw [if_neg hbig']
      simp only [h0, if_false]
      simp at d1'
      simp [run_zero hz, d1', newRow]
  unfold Oper.wp
  rw [hrun]
  have hdsz : ds.size = len * s := by rw [d2]; simp
  by_cases hl0 : len = 0
  · have hxe : xs = [] := List.eq_nil_of_length_eq_zero (by omega)
    subst hxe
    rw [hl0]
    refine hk (.slc w.heap.size 0 0 0) _ _ ι (H.set w.heap.size ⟨0, [], ds.size, none⟩) (h _ _ ⟨by simp, .inr (.inl ⟨_, _, rfl, rfl⟩)⟩ (fun c x hx => Heap.keep hr.fresh hx) (by simp [rowB]) ⟨_, _, by rw [hl0]⟩) (.slc _ _ _ _) (Imm.le_refl _) (hr.alloc _ el [] (by simp) (fun p h => by simp at h))
  · obtain ⟨hr2, hown⟩ := Rel.row (s := s) hr ds el xs len hc (by omega) hdsz (by omega) (fun p hp' => by
      have hpl : p < len * s := by rw [flat_length hc, hxl] at hp'; exact hp'
      have hs0 : 0 < s := by rcases Nat.eq_zero_or_pos s with h | h; · rw [h] at hpl; simp at hpl
                             · exact h
      have hd := Nat.div_add_mod p s
      have hlt : p / s < len := Nat.div_lt_of_lt_mul (by rw [Nat.mul_comm]; exact hpl)
      have hmod := Nat.mod_lt p hs0
      have hjx : p / s < xs.length := by omega
      have hv := hval (p / s) (by omega)
      have ht' : (xs[p / s]).told = true := List.all_eq_true.mp hxs _ (List.getElem_mem hjx)
      have hvc := (hv.cells ht').2 (p % s) (by rw [hc _ (List.getElem_mem hjx)]; exact hmod)
      have e1 := d4 (p / s) (by omega) (p % s) hmod
      have e2 := flat_get hc (p / s) (xs[p / s]) (by simp [hjx]) (p % s) hmod
      rw [show (p / s) * s + p % s = p by rw [Nat.mul_comm]; exact hd] at e2
      rw [show (0 + p / s) * s + p % s = p by rw [Nat.zero_add, Nat.mul_comm]; exact hd] at e1
      rw [List.getElem?_eq_getElem hp', List.getElem?_eq_getElem (by rw [hc _ (List.getElem_mem hjx)]; exact hmod)] at e2
      rw [Option.some.inj e2, e1]
      simpa [us] using hvc)
    rw [hxl] at hown
    refine hk (.slc w.heap.size 0 len len) _ _ ι _ (h _ _ (by rw [← hxl] at hown ⊢; exact hown) (fun c x hx => Heap.keep hr.fresh hx) (fun c hc' => ?_) ⟨_, _, rfl⟩) (.slc _ _ _ _) (Imm.le_refl _) hr2
    rw [rowB_mem hc']; exact hr.fresh

end
end Go.Proofs.Ythdoebgikbfndaa.E
