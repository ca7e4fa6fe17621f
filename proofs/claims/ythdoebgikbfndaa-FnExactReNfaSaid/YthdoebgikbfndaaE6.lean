/- What nobody writes any more; calls that only read; cuts, literals of structs, the greater and the lesser. -/
import Derived.Test.YthdoebgikbfndaaE5
namespace Go.Proofs.Ythdoebgikbfndaa.E
open Go Go.RowKit
set_option linter.unusedVariables false

/-- All that is owned, told as what nobody writes: for the while of a call. -/
def Imm.all (ι : Imm) (H : Heap) (w : World) : Imm := fun b o => match H b with
  | some x => if x.lo ≤ o ∧ o < x.lo + x.cs.length then w.cell? ⟨b, o, none⟩ else ι b o
  | none => ι b o

theorem Imm.all_le {B : Base} {ι : Imm} {H : Heap} {w : World} (hr : Rel B ι H w) : ι.le (ι.all H w) := by
  intro b o v h
  unfold Imm.all
  split
  · split
    · rename_i x hx hc
      exact hr.imm _ _ _ h
    · exact h
  · exact h
theorem Imm.all_imm {B : Base} {ι : Imm} {H : Heap} {w : World} (hr : Rel B ι H w) (b o : Nat) (v : Value) (h : ι.all H w b o = some v) : w.cell? ⟨b, o, none⟩ = some v := by
  unfold Imm.all at h
  split at h
  · split at h
    · exact h
    · exact hr.imm _ _ _ h
  · exact hr.imm _ _ _ h
theorem Imm.all_cell {B : Base} {ι : Imm} {H : Heap} {w : World} (hr : Rel B ι H w) {b : Nat} {x : Blk} (hb : H b = some x) {p : Nat} (hp : p < x.cs.length) :
    ∃ v, ι.all H w b (x.lo + p) = some v ∧ V (ι.all H w) (x.cs[p]) v := by
  obtain ⟨v, h1, h2⟩ := hr.cell b x hb p hp
  refine ⟨v, ?_, h2.mono (Imm.all_le hr)⟩
  unfold Imm.all
  rw [hb]
  simp only
  rw [if_pos ⟨by omega, by omega⟩]
  exact h1

/-- How a value that leads to what is owned reads for the while of a call. -/
inductive RA (H : Heap) : AV → AV → Prop where
  | same (a : AV) : RA H a a
  | forget (a : AV) : RA H a .undef
  | ptr {b q p : Nat} {x : Blk} {xs : List AV} (hb : H b = some x) (hq : q = x.lo + p) (hl : xs.length = (x.cs.drop p).length) (h : ∀ j (h : j < xs.length) (h' : j < (x.cs.drop p).length), RA H ((x.cs.drop p)[j]) (xs[j])) : RA H (.ptr b q) (.rptr xs)
  | slc {b q p n cap s : Nat} {x : Blk} {xs : List AV} (hb : H b = some x) (hq : q = x.lo + p) (hn : xs.length = n) (hc : n ≤ cap) (hs : ∀ y ∈ xs, (cells y).length = s) (hl : p + n * s ≤ x.cs.length)
      (h : ∀ j (h : j < (flat xs).length) (h' : p + j < x.cs.length), RA H (x.cs[p + j]) ((flat xs)[j])) : RA H (.slc b q n cap) (.list s xs)
  | nil (s : Nat) : RA H .nil (.list s [])
  | slc0 (b q s : Nat) : RA H (.slc b q 0 0) (.list s [])
  | rpre (xs : List AV) (n : Nat) : RA H (.rptr xs) (.rptr (xs.take n))
  | agg {xs ys : List AV} (hl : xs.length = ys.length) (h : ∀ j (h : j < xs.length) (h' : j < ys.length), RA H (xs[j]) (ys[j])) : RA H (.agg xs) (.agg ys)

theorem RA.own {s : Nat} {H : Heap} {v : AV} {xs : List AV} (h : Own s H v xs) : RA H v (.list s xs) := by
  obtain ⟨h1, h2⟩ := h
  rcases h2 with ⟨rfl, rfl⟩ | ⟨b, o, rfl, rfl⟩ | ⟨b, o, cap, hi, rfl, g1, g2, g3, g4⟩
  · exact .nil s
  · exact .slc0 b o s
  · refine .slc (p := 0) g1 (by simp) rfl g3 h1 (by simp [flat_length h1]) fun j hj hj' => ?_
    simp only [Nat.zero_add]
    exact .same _

theorem V.listNil' (ι : Imm) (s : Nat) (b o c : Nat) : V ι (.list s []) (.slice (some ⟨b, o, none⟩) 0 c) := .listNil _ _ _

theorem RA.V {B : Base} {ι : Imm} {H : Heap} {w : World} (hr : Rel B ι H w) {a a' : AV} (h : RA H a a') : ∀ {v : Value}, E.V (ι.all H w) a v → E.V (ι.all H w) a' v := by
  induction h with
  | same a => exact fun h => h
  | forget a => exact fun _ => .undef _
  | @ptr b q p x xs hb hq hl h ih =>
    intro v hv
    rw [hv.ptr_inv]
    have hc : ∀ j, j < xs.length → ∃ u, ι.all H w b (q + j) = some u ∧ ∀ (hj : j < (x.cs.drop p).length), E.V (ι.all H w) ((x.cs.drop p)[j]) u := by
      intro j hj
      have : p + j < x.cs.length := by simp at hl; omega
      obtain ⟨u, h1, h2⟩ := Imm.all_cell hr hb this
      refine ⟨u, by rw [hq, Nat.add_assoc]; exact h1, fun hj => by rw [List.getElem_drop]; exact h2⟩
    refine .rptr (fun j => (ι.all H w b (q + j)).getD Go.undef) (fun j hj => ?_) (fun j hj => ?_)
    · obtain ⟨u, h1, _⟩ := hc j hj
      rw [h1]; rfl
    · obtain ⟨u, h1, h2⟩ := hc j hj
      rw [h1]
      exact ih j hj (by omega) (h2 (by omega))
  | @slc b q p n cap s x xs hb hq hn hcap hs hl h ih =>
    intro v hv
    rw [hv.slc_inv, ← hn]
    have hfl := flat_length hs
    rw [hn] at hfl
    refine .list (fun j => (ι.all H w b (q + j)).getD Go.undef) hs (by omega) (fun j hj => ?_) (fun j hj => ?_)
    · obtain ⟨u, h1, h2⟩ := Imm.all_cell hr hb (p := p + j) (by omega)
      rw [hq, Nat.add_assoc, h1]; rfl
    · obtain ⟨u, h1, h2⟩ := Imm.all_cell hr hb (p := p + j) (by omega)
      rw [hq, Nat.add_assoc, h1]
      exact ih j hj (by omega) h2
  | nil s => intro v hv; rw [hv.nil_inv]; exact .listNil s _ _
  | slc0 b q s => intro v hv; rw [hv.slc_inv]; exact V.listNil' _ _ _ _ _
  | rpre xs n =>
    intro v hv
    obtain ⟨b, q, vs, rfl, h1, h2⟩ := hv.rptr_inv
    exact .rptr vs (fun p hp => h1 p (by simp at hp; omega)) (fun p hp => by rw [List.getElem_take]; exact h2 p (by simp at hp; omega))
  | agg hl h ih =>
    intro v hv
    obtain ⟨cs, rfl, h1, h2⟩ := hv.agg_inv
    exact .agg cs (by omega) fun j hj => ih j (by omega) hj (h2 j (by omega))

/-- A value that leads to no memory. -/
inductive Scal : AV → Prop where
  | int (k : IntKind) (n : Int) : Scal (.int k n)
  | bool (b : Bool) : Scal (.bool b)
  | str (s : ByteArray) : Scal (.str s)
  | nil : Scal .nil
  | nilptr : Scal .nilptr
  | agg {xs : List AV} (h : ∀ x ∈ xs, Scal x) : Scal (.agg xs)
  | tup {xs : List AV} (h : ∀ x ∈ xs, Scal x) : Scal (.tup xs)
  | slc (b o n c : Nat) : Scal (.slc b o n c)
  | ptr (b o : Nat) : Scal (.ptr b o)
  | undef : Scal .undef

theorem Scal.V {ι κ : Imm} {a : AV} (h : Scal a) : ∀ {v : Value}, E.V ι a v → E.V κ a v := by
  induction h with
  | int k n => intro v hv; rw [hv.int_inv]; exact .int _ _
  | bool b => intro v hv; rw [hv.bool_inv]; exact .bool _
  | str s => intro v hv; rw [hv.str_inv]; exact .str _
  | nil => intro v hv; rw [hv.nil_inv]; exact .nil
  | nilptr => intro v hv; rw [hv.nilptr_inv]; exact .nilptr
  | agg h ih =>
    intro v hv
    obtain ⟨cs, rfl, h1, h2⟩ := hv.agg_inv
    exact .agg cs h1 fun p hp => ih _ (List.getElem_mem hp) (h2 p hp)
  | tup h ih =>
    intro v hv
    obtain ⟨cs, rfl, h1, h2⟩ := hv.tup_inv
    exact .tup cs h1 fun p hp => ih _ (List.getElem_mem hp) (h2 p hp)
  | slc b o n c => intro v hv; rw [hv.slc_inv]; exact .slc _ _ _ _
  | ptr b o => intro v hv; rw [hv.ptr_inv]; exact .ptr _ _
  | undef => intro v hv; exact .undef v

def RAs (H : Heap) : List AV → List AV → Prop
  | [], [] => True
  | a :: as, b :: bs => RA H a b ∧ RAs H as bs
  | _, _ => False
theorem RAs.get {H : Heap} : ∀ {as bs : List AV}, RAs H as bs → as.length = bs.length ∧ ∀ p (h : p < as.length) (h' : p < bs.length), RA H (as[p]) (bs[p])
  | [], [], _ => ⟨rfl, fun p h => by simp at h⟩
  | [], _ :: _, h => by simp [RAs] at h
  | _ :: _, [], h => by simp [RAs] at h
  | a :: as, b :: bs, h => by
    obtain ⟨h1, h2⟩ := RAs.get h.2
    refine ⟨by simp [h1], fun p hp hp' => ?_⟩
    cases p with
    | zero => exact h.1
    | succ p => exact h2 p (by simpa using hp) (by simpa using hp')

/-- A contract over immutable arguments, at arguments that are owned: for results that lead to no memory. -/
theorem PC.read {P : Program} {f : FuncId} {as bs : List AV} {H : Heap} {R : AV → Prop} (h : PC P f bs R) (hab : RAs H as bs) (hs : ∀ v, R v → Scal v) : HC P f as H fun v G => R v ∧ G = H := by
  intro B ι w vs hr hv
  obtain ⟨h1, h2⟩ := hab.get
  have hv' : Vs (ι.all H w) bs vs := ⟨by rw [hv.1, h1], fun p hp => (h2 p (by omega) hp).V hr ((hv.2 p (by omega)).mono (Imm.all_le hr))⟩
  refine (h (ι.all H w) w vs (Imm.all_imm hr) hv').mono ?_
  rintro x w' ⟨v, r, κ, g1, g2, g3, g4, g5, g6, g7⟩
  refine ⟨v, r, ι, H, g1, ⟨g2, rfl⟩, (hs v g2).V g3, Imm.le_refl _, ?_⟩
  refine hr.behind (Imm.le_refl _) (fun b o u hu => ?_) g6 (fun _ _ _ => rfl)
  have hb := blt (hr.imm _ _ _ hu)
  rw [g6.cell (p := ⟨b, o, none⟩) hb]
  exact hr.imm _ _ _ hu

/-- What is owned is owned no more: it is told as what nobody writes. -/
theorem Rel.freeze {B : Base} {ι : Imm} {H : Heap} {w : World} (hr : Rel B ι H w) {b : Nat} {x : Blk} (hb : H b = some x) :
    ∃ κ, ι.le κ ∧ Rel B κ (H.del b) w ∧ ∀ p (h : p < x.cs.length), ∃ v, κ b (x.lo + p) = some v ∧ V κ (x.cs[p]) v := by
  let κ : Imm := fun c o => if c = b ∧ x.lo ≤ o ∧ o < x.lo + x.cs.length then w.cell? ⟨c, o, none⟩ else ι c o
  have hle : ι.le κ := by
    intro c o v h
    simp only [κ]
    split
    · exact hr.imm _ _ _ h
    · exact h
  have hdel : ∀ c y, H.del b c = some y → c ≠ b ∧ H c = some y := by
    intro c y h
    unfold Heap.del at h
    split at h
    · exact absurd h (by simp)
    · rename_i hc; exact ⟨hc, h⟩
  refine ⟨κ, hle, ⟨hr.below, hr.size, fun c o v h => ?_, fun c o h => ?_, fun c y h => hr.lo c y (hdel c y h).2, fun c y h p hp => ?_, fun c y h o h1 h2 => ?_, fun c y h => hr.obj c y (hdel c y h).2⟩, fun p hp => ?_⟩
  · simp only [κ] at h
    split at h
    · exact h
    · exact hr.imm _ _ _ h
  · simp only [κ]
    rw [if_neg]
    · exact hr.iold c o h
    · rintro ⟨rfl, _⟩; exact absurd (hr.lo c x hb).1 (by omega)
  · obtain ⟨v, h1, h2⟩ := hr.cell c y (hdel c y h).2 p hp
    exact ⟨v, h1, h2.mono hle⟩
  · obtain ⟨hc, hy⟩ := hdel c y h
    obtain ⟨g1, g2, g3⟩ := hr.room c y hy o h1 h2
    exact ⟨g1, g2, by simp only [κ]; rw [if_neg (fun k => hc k.1)]; exact g3⟩
  · obtain ⟨v, h1, h2⟩ := hr.cell b x hb p hp
    refine ⟨v, ?_, h2.mono hle⟩
    simp only [κ]
    rw [if_pos ⟨trivial, by omega, by omega⟩]; exact h1

inductive Fz (b : Nat) (x : Blk) : AV → AV → Prop where
  | same (a : AV) : Fz b x a a
  | forget (a : AV) : Fz b x a .undef
  | ptr {q p : Nat} (hq : q = x.lo + p) : Fz b x (.ptr b q) (.rptr (x.cs.drop p))
  | row {n cap s : Nat} {xs : List AV} (hn : xs.length = n) (hc : n ≤ cap) (hs : ∀ y ∈ xs, (cells y).length = s) (h : flat xs = x.cs) : Fz b x (.slc b x.lo n cap) (.list s xs)

theorem Fz.V {b : Nat} {x : Blk} {κ : Imm} (hκ : ∀ p (h : p < x.cs.length), ∃ v, κ b (x.lo + p) = some v ∧ E.V κ (x.cs[p]) v) {a a' : AV} (h : Fz b x a a') {v : Value} (hv : E.V κ a v) : E.V κ a' v := by
  have key : ∀ p, p < x.cs.length → κ b (x.lo + p) = some ((κ b (x.lo + p)).getD Go.undef) := by
    intro p hp
    obtain ⟨v, h1, _⟩ := hκ p hp
    rw [h1]; rfl
  have key2 : ∀ p (hp : p < x.cs.length), E.V κ (x.cs[p]) ((κ b (x.lo + p)).getD Go.undef) := by
    intro p hp
    obtain ⟨v, h1, h2⟩ := hκ p hp
    rw [h1]; exact h2
  cases h with
  | same => exact hv
  | forget => exact .undef _
  | @ptr q p hq =>
    rw [hv.ptr_inv, hq]
    exact V.rptr_drop (fun p => (κ b (x.lo + p)).getD Go.undef) key key2 p
  | row hn hc hs h =>
    rw [hv.slc_inv, ← hn]
    refine .list (fun p => (κ b (x.lo + p)).getD Go.undef) hs (by omega) (fun p hp => key p (by rw [h] at hp; exact hp)) (fun p hp => ?_)
    have := key2 p (by rw [h] at hp; exact hp)
    simp only [h]
    exact this

theorem AWP.freeze {P : Program} {n : Nat} {c : Code} {Q : Exit → Env → Heap → Prop} {e e' : Env} {H : Heap} {b : Nat} {x : Blk} (hb : H b = some x) (he : ∀ t, Fz b x (e t) (e' t)) (h : AWP P n c Q e' (H.del b)) : AWP P n c Q e H := by
  intro B ι a w hr hE
  obtain ⟨κ, h1, h2, h3⟩ := hr.freeze hb
  refine wp_mono (h B κ a w h2 ⟨hE.size, hE.defers, fun t => (he t).V h3 ((hE.val t).mono h1)⟩) fun _ _ _ k => k.mono h1 fun _ _ _ h => h

theorem AWP.freezePtr {P : Program} {n : Nat} {c : Code} {Q : Exit → Env → Heap → Prop} {e : Env} {H : Heap} {b : Nat} {cs : List AV} {hi : Nat} (t : Nat) (ht : e t = .ptr b 0) (hb : H b = some ⟨0, cs, hi, none⟩) (h : AWP P n c Q (upd e t (.rptr cs)) (H.del b)) : AWP P n c Q e H := by
  refine AWP.freeze hb (fun s => ?_) h
  by_cases hs : s = t
  · subst hs
    rw [upd_same, ht]
    exact .ptr (p := 0) rfl
  · rw [upd_ne _ _ hs]; exact .same _

theorem AWP.freezeRow {P : Program} {n : Nat} {c : Code} {Q : Exit → Env → Heap → Prop} {e : Env} {H G : Heap} {s : Nat} {v : AV} {xs : List AV} (t : Nat) (ht : e t = v) (hv : Own s H v xs) (hG : ∀ c x, G c = some x → c ∉ rowB v ∧ H c = some x)
    (h : AWP P n c Q (upd e t (.list s xs)) G) : AWP P n c Q e H := by
  obtain ⟨h1, h2⟩ := hv
  have small : (∀ ι u, V ι v u → V ι (.list s xs) u) → AWP P n c Q e H := by
    intro hV B ι a w hr hE
    refine h B ι a w (hr.less fun c x k => (hG c x k).2) ⟨hE.size, hE.defers, fun q => ?_⟩
    by_cases hs : q = t
    · subst hs; rw [upd_same]; have := hE.val q; rw [ht] at this; exact hV _ _ this
    · rw [upd_ne _ _ hs]; exact hE.val q
  rcases h2 with ⟨rfl, rfl⟩ | ⟨b, o, rfl, rfl⟩ | ⟨b, o, cap, hi, rfl, g1, g2, g3, g4⟩
  · exact small fun ι u hu => by rw [hu.nil_inv]; exact .listNil s _ _
  · exact small fun ι u hu => by rw [hu.slc_inv]; exact V.listNil' _ _ _ _ _
  · refine AWP.freeze (e' := upd e t (.list s xs)) g1 (fun q => ?_) (AWP.drop (fun c x k => ?_) h)
    · by_cases hs : q = t
      · subst hs
        rw [upd_same, ht]
        exact .row rfl g3 h1 rfl
      · rw [upd_ne _ _ hs]; exact .same _
    · have hc : c ≠ b := fun e => (hG c x k).1 (by subst e; simp [rowB]; omega)
      rw [Heap.del_ne _ hc]
      exact (hG c x k).2

section
variable {P : Program} {o : Oper} {e : Env} {H : Heap} {K : AV → Heap → Prop}

/-- A literal of a slice that nobody writes (the elements of a call with open arguments). -/
theorem opBuildSliceI {t el s : Nat} {len : Nat} {parts : Array (Nat × Operand)} {z : Value} {xs : List AV} (ho : o.op = .buildSlice t len parts) (ht : elemA P t = some el) (hs : sizeA P el = some s) (hz : zeroA P el = some z) (hzs : z.cells.size = s)
    (hp : parts.toList.map (·.1) = List.range len) (hx : parts.toList.map (fun p => ev e p.2) = xs) (hxs : xs.all AV.told = true) (hc : ∀ x ∈ xs, (cells x).length = s) (hbig : len * s ≤ 16777216)
    (h : K (.list s xs) H) : Heavy P o e H K := by
  intro e' he B ι a w n hr hE next Q hk
  refine opBuildSlice (K := fun v G => ∃ b o c hi, (v = .slc b o 0 0 ∧ xs = [] ∧ ∀ c x, H c = some x → G c = some x) ∨ (v = .slc b o xs.length c ∧ xs.length ≤ c ∧ G b = some ⟨o, flat xs, hi, none⟩ ∧ H b = none ∧ ∀ c x, H c = some x → G c = some x)) ho ht hs hz hzs hp hx hxs hc hbig ?_ e' he B ι a w n hr hE next Q ?_
  · rintro v G ⟨h1, h2⟩ hG hn ⟨b0, c0, hv0⟩
    rcases h2 with ⟨rfl, rfl⟩ | ⟨b, o, rfl, rfl⟩ | ⟨b, o, cap, hi, rfl, g1, g2, g3, g4⟩
    · exact absurd hv0 (by simp)
    · exact ⟨b, o, 0, 0, .inl ⟨rfl, rfl, hG⟩⟩
    · exact ⟨b, o, cap, hi, .inr ⟨rfl, g3, g1, hn b (by simp [rowB]; omega), hG⟩⟩
  · rintro v r w' κ G ⟨b, q, c, hi, hv⟩ hV hle hrG
    rcases hv with ⟨rfl, hx0, hG⟩ | ⟨rfl, hcap, hb, hHb, hG⟩
    · rw [hx0] at h
      refine hk _ r w' κ H h ?_ hle (hrG.less hG)
      rw [hV.slc_inv]; exact V.listNil' _ _ _ _ _
    · obtain ⟨μ, k1, k2, k3⟩ := hrG.freeze hb
      refine hk _ r w' μ H h ?_ (Imm.le_trans hle k1) (k2.less fun c x hc' => ?_)
      · exact Fz.V k3 (.row rfl hcap hc rfl) (hV.mono k1)
      · have : c ≠ b := fun e => by subst e; rw [hHb] at hc'; exact absurd hc' (by simp)
        rw [Heap.del_ne _ this]; exact hG c x hc'

def minmax (mx : Bool) : List Int → Option Int
  | [] => none
  | a :: r => some (r.foldl (fun x y => if mx then (if y > x then y else x) else (if y < x then y else x)) a)

theorem foldl_max (P : Program) (w : World) (k : IntKind) : ∀ (r : List Int) (a : Int), ((r.map (Value.int k)).foldlM Builtin.max2 (Value.int k a)).run P w = .ok (.int k (r.foldl (fun x y => if y > x then y else x) a)) w
  | [], a => rfl
  | y :: r, a => by
    rw [List.map_cons, List.foldlM_cons, Sem.run_bind]
    simp only [Builtin.max2, Sem.run_pure, Result.andThen_ok]
    exact foldl_max P w k r _
theorem foldl_min (P : Program) (w : World) (k : IntKind) : ∀ (r : List Int) (a : Int), ((r.map (Value.int k)).foldlM Builtin.min2 (Value.int k a)).run P w = .ok (.int k (r.foldl (fun x y => if y < x then y else x) a)) w
  | [], a => rfl
  | y :: r, a => by
    rw [List.map_cons, List.foldlM_cons, Sem.run_bind]
    simp only [Builtin.min2, Sem.run_pure, Result.andThen_ok]
    exact foldl_min P w k r _

theorem V.ints {ι : Imm} {k : IntKind} {e : Env} {ρ : Operand → Value} : ∀ {l : List Operand} {ns : List Int}, (∀ x ∈ l, V ι (ev e x) (ρ x)) → l.map (ev e) = ns.map (AV.int k) → l.map ρ = ns.map (Value.int k)
  | [], [], _, _ => rfl
  | [], _ :: _, _, h => by simp at h
  | _ :: _, [], _, h => by simp at h
  | x :: l, n :: ns, hv, h => by
    simp only [List.map_cons, List.cons.injEq] at h ⊢
    have := hv x List.mem_cons_self
    rw [h.1] at this
    exact ⟨this.int_inv, V.ints (fun y hy => hv y (List.mem_cons_of_mem _ hy)) h.2⟩

theorem opMax {as : Array Operand} {ts : Array TypeId} {k : IntKind} {ns : List Int} {m : Int} {v : AV} (ho : o.op = .call ⟨.builtin .max, as, ts⟩) (ha : as.toList.map (ev e) = ns.map (AV.int k)) (hm : minmax true ns = some m) (hv : v = .int k m) : Light P o e H v [] :=
  Light.of_run fun ι ρ w hi hV => by
    have h1 := V.ints (ι := ι) (ρ := ρ) (fun x hx => hV x (by simp [ho, Op.operands, Call.operands, Array.mem_toList_iff.mp hx])) ha
    cases ns with
    | nil => simp [minmax] at hm
    | cons a r =>
      simp [minmax] at hm
      subst hm
      refine ⟨_, ?_, by rw [hv]; exact .int _ _⟩
      have h2 : (as.map ρ).toList = Value.int k a :: r.map (Value.int k) := by rw [Array.toList_map, h1]; rfl
      simp only [execOp, ho, resolve, pure_bind, invoke, builtin, Builtin.max_]
      rw [h2]
      simp only [Sem.run_bind]
      rw [foldl_max]; rfl
theorem opMin {as : Array Operand} {ts : Array TypeId} {k : IntKind} {ns : List Int} {m : Int} {v : AV} (ho : o.op = .call ⟨.builtin .min, as, ts⟩) (ha : as.toList.map (ev e) = ns.map (AV.int k)) (hm : minmax false ns = some m) (hv : v = .int k m) : Light P o e H v [] :=
  Light.of_run fun ι ρ w hi hV => by
    have h1 := V.ints (ι := ι) (ρ := ρ) (fun x hx => hV x (by simp [ho, Op.operands, Call.operands, Array.mem_toList_iff.mp hx])) ha
    cases ns with
    | nil => simp [minmax] at hm
    | cons a r =>
      simp [minmax] at hm
      subst hm
      refine ⟨_, ?_, by rw [hv]; exact .int _ _⟩
      have h2 : (as.map ρ).toList = Value.int k a :: r.map (Value.int k) := by rw [Array.toList_map, h1]; rfl
      simp only [execOp, ho, resolve, pure_bind, invoke, builtin, Builtin.min_]
      rw [h2]
      simp only [Sem.run_bind]
      rw [foldl_min]; rfl
end
end Go.Proofs.Ythdoebgikbfndaa.E
