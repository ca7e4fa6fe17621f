/- What a call owns, as a list of things apart; steps over it; cuts, tests, loops by the words of XF0. -/
import Derived.Test.YthdoebgikbfndaaF0
namespace Go.Proofs.Ythdoebgikbfndaa.E
open Go Go.RowKit
set_option linter.unusedVariables false

/-- A row of rows, each of its own, but the one that is lent out. -/
structure OwnRows (s : Nat) (H : Heap) (v : AV) (ws : List AV) (xss : List (List AV)) (hole : Option Nat) : Prop where
  outer : Own 1 H v ws
  len : ws.length = xss.length
  inner : ∀ i, i < ws.length → hole ≠ some i → Own s H (ws.getD i .undef) (xss.getD i [])
  apart : ∀ i, i < ws.length → hole ≠ some i → ∀ c ∈ rowB (ws.getD i .undef), c ∉ rowB v
  far : ∀ i j, i ≠ j → i < ws.length → j < ws.length → hole ≠ some i → hole ≠ some j → ∀ c ∈ rowB (ws.getD i .undef), c ∉ rowB (ws.getD j .undef)
def rowsB (v : AV) (ws : List AV) (hole : Option Nat) : List Nat := rowB v ++ ((List.range ws.length).filter fun i => decide (hole ≠ some i)).flatMap fun i => rowB (ws.getD i .undef)
theorem rowsB_mem {v : AV} {ws : List AV} {hole : Option Nat} {c : Nat} : c ∈ rowsB v ws hole ↔ c ∈ rowB v ∨ ∃ i, i < ws.length ∧ hole ≠ some i ∧ c ∈ rowB (ws.getD i .undef) := by
  unfold rowsB
  rw [List.mem_append, List.mem_flatMap]
  constructor
  · rintro (h | ⟨i, h1, h2⟩)
    · exact .inl h
    · rw [List.mem_filter, List.mem_range, decide_eq_true_eq] at h1
      exact .inr ⟨i, h1.1, h1.2, h2⟩
  · rintro (h | ⟨i, h1, h2, h3⟩)
    · exact .inl h
    · exact .inr ⟨i, by rw [List.mem_filter, List.mem_range, decide_eq_true_eq]; exact ⟨h1, h2⟩, h3⟩
theorem OwnRows.has {s : Nat} {H : Heap} {v : AV} {ws : List AV} {xss : List (List AV)} {hole : Option Nat} (h : OwnRows s H v ws xss hole) {c : Nat} (hc : c ∈ rowsB v ws hole) : ∃ x, H c = some x := by
  rcases rowsB_mem.mp hc with hc | ⟨i, h1, h2, h3⟩
  · exact Own.has h.outer c hc
  · exact Own.has (h.inner i h1 h2) c h3
theorem Own.keep' {s : Nat} {H G : Heap} {v : AV} {xs : List AV} (h : Own s H v xs) (k : ∀ c ∈ rowB v, ∀ x, H c = some x → G c = some x) : Own s G v xs :=
  Own.keep h fun b hb => by obtain ⟨x, hx⟩ := Own.has h b hb; rw [hx, k b hb x hx]
theorem OwnRows.keep {s : Nat} {H G : Heap} {v : AV} {ws : List AV} {xss : List (List AV)} {hole : Option Nat} (h : OwnRows s H v ws xss hole) (k : ∀ c ∈ rowsB v ws hole, ∀ x, H c = some x → G c = some x) : OwnRows s G v ws xss hole :=
  ⟨Own.keep' h.outer fun c hc => k c (rowsB_mem.mpr (.inl hc)), h.len, fun i h1 h2 => Own.keep' (h.inner i h1 h2) fun c hc => k c (rowsB_mem.mpr (.inr ⟨i, h1, h2, hc⟩)), h.apart, h.far⟩

theorem flat_ones {ws : List AV} (h : ∀ w ∈ ws, cells w = [w]) : flat ws = ws := by
  unfold flat
  induction ws with
  | nil => rfl
  | cons a l ih => rw [List.flatMap_cons, h a List.mem_cons_self, ih fun w hw => h w (List.mem_cons_of_mem _ hw)]; rfl
theorem OwnRows.ra {s : Nat} {H : Heap} {v : AV} {ws : List AV} {xss : List (List AV)} (h : OwnRows s H v ws xss none) : RA H v (.list 1 (xss.map (AV.list s))) := by
  have hlen := h.len
  have hc : ∀ w ∈ ws, cells w = [w] := fun w hw => by
    obtain ⟨i, hi, rfl⟩ := List.getElem_of_mem hw
    have := (h.inner i hi (by simp)).cells
    simpa [List.getD_eq_getElem?_getD, hi] using this
  obtain ⟨h1, h2⟩ := h.outer
  rcases h2 with ⟨rfl, rfl⟩ | ⟨b, o, rfl, rfl⟩ | ⟨b, o, cap, hi, rfl, g1, g2, g3, g4⟩
  · obtain rfl : xss = [] := List.eq_nil_of_length_eq_zero (by simpa using hlen.symm)
    exact .nil 1
  · obtain rfl : xss = [] := List.eq_nil_of_length_eq_zero (by simpa using hlen.symm)
    exact .slc0 b o 1
  · have e1 : flat (xss.map (AV.list s)) = xss.map (AV.list s) := flat_ones fun w hw => by
      obtain ⟨xs, _, rfl⟩ := List.mem_map.mp hw; rfl
    have e2 := flat_ones hc
    have key : ∀ j (hj : j < (xss.map (AV.list s)).length) (hj' : j < ws.length), RA H ws[j] (xss.map (AV.list s))[j] := fun j hj hj' => by
      have := h.inner j hj' (by simp)
      have hx : j < xss.length := by simpa using hj
      simp only [List.getD_eq_getElem?_getD, List.getElem?_eq_getElem hj', List.getElem?_eq_getElem hx, Option.getD_some] at this
      rw [List.getElem_map]
      exact RA.own this
    refine .slc (p := 0) g1 (by simp) (by simp [hlen]) g3 (fun y hy => by obtain ⟨xs, _, rfl⟩ := List.mem_map.mp hy; rfl) (by simp [e2]) fun j hj hj' => ?_
    simp only [Nat.zero_add, e1, e2] at hj hj' ⊢
    exact key j hj hj'

/-- Rows of their own, each apart from the others. -/
def PoolH (H : Heap) : List (AV × List AV) → Prop
  | [] => True
  | p :: l => Own 1 H p.1 p.2 ∧ (∀ q ∈ l, ∀ c ∈ rowB p.1, c ∉ rowB q.1) ∧ PoolH H l
def poolB (ps : List (AV × List AV)) : List Nat := ps.flatMap fun p => rowB p.1
theorem PoolH.all {H : Heap} : ∀ {ps : List (AV × List AV)}, PoolH H ps → ∀ p ∈ ps, Own 1 H p.1 p.2
  | p :: l, ⟨h1, h2, h3⟩, q, hq => by
    rcases List.mem_cons.mp hq with rfl | hq
    · exact h1
    · exact h3.all q hq
theorem PoolH.has {H : Heap} {ps : List (AV × List AV)} (h : PoolH H ps) {c : Nat} (hc : c ∈ poolB ps) : ∃ x, H c = some x := by
  obtain ⟨p, hp, hc⟩ := List.mem_flatMap.mp hc
  exact Own.has (h.all p hp) c hc
theorem PoolH.keep {H G : Heap} : ∀ {ps : List (AV × List AV)}, PoolH H ps → (∀ c ∈ poolB ps, ∀ x, H c = some x → G c = some x) → PoolH G ps
  | [], _, _ => trivial
  | p :: l, ⟨h1, h2, h3⟩, k => ⟨Own.keep' h1 fun c hc => k c (List.mem_append_left _ hc), h2, h3.keep fun c hc => k c (List.mem_append_right _ hc)⟩
theorem PoolH.perm {H : Heap} {ps qs : List (AV × List AV)} (hp : ps.Perm qs) : PoolH H ps → PoolH H qs := by
  induction hp with
  | nil => exact id
  | cons x hp ih => exact fun ⟨h1, h2, h3⟩ => ⟨h1, fun q hq => h2 q (hp.mem_iff.mpr hq), ih h3⟩
  | swap x y l =>
    rintro ⟨h1, h2, h3, h4, h5⟩
    refine ⟨h3, fun q hq c hc hc' => ?_, h1, fun q hq => h2 q (List.mem_cons_of_mem _ hq), h5⟩
    rcases List.mem_cons.mp hq with rfl | hq
    · exact h2 x List.mem_cons_self c hc' hc
    · exact h4 q hq c hc hc'
  | trans _ _ i1 i2 => exact fun h => i2 (i1 h)

inductive Res where
  | pool (ps : List (AV × List AV))
  | row (s : Nat) (v : AV) (xs : List AV)
  | cell (b : Nat) (cs : List AV)
  | snap (S : List (Nat × Blk))
  | rows (s : Nat) (v : AV) (ws : List AV) (xss : List (List AV)) (hole : Option Nat)
def Res.holds (H : Heap) : Res → Prop
  | .pool ps => PoolH H ps
  | .row s v xs => Own s H v xs
  | .cell b cs => At H b cs
  | .snap S => ∀ q ∈ S, H q.1 = some q.2
  | .rows s v ws xss hole => OwnRows s H v ws xss hole
def Res.blks : Res → List Nat
  | .pool ps => poolB ps
  | .row _ v _ => rowB v
  | .cell b _ => [b]
  | .snap S => S.map (·.1)
  | .rows _ v ws _ hole => rowsB v ws hole
theorem Res.holds.has {H : Heap} {r : Res} (h : r.holds H) {c : Nat} (hc : c ∈ r.blks) : ∃ x, H c = some x := by
  cases r with
  | pool ps => exact PoolH.has h hc
  | rows s v ws xss hole => exact OwnRows.has h hc
  | row s v xs => exact Own.has h c hc
  | cell b cs => obtain ⟨hi, g⟩ := h; rw [List.mem_singleton.mp hc]; exact ⟨_, g⟩
  | snap S => obtain ⟨q, h1, rfl⟩ := List.mem_map.mp hc; exact ⟨_, h q h1⟩
theorem Res.holds.alive {H : Heap} {r : Res} (h : r.holds H) {c : Nat} (hc : c ∈ r.blks) : H c ≠ none := by
  obtain ⟨x, hx⟩ := h.has hc; rw [hx]; simp
theorem Res.holds.keep {H G : Heap} {r : Res} (h : r.holds H) (k : ∀ c ∈ r.blks, ∀ x, H c = some x → G c = some x) : r.holds G := by
  cases r with
  | pool ps => exact PoolH.keep h k
  | rows s v ws xss hole => exact OwnRows.keep h k
  | row s v xs => exact Own.keep h fun b hb => by obtain ⟨x, hx⟩ := Own.has h b hb; rw [hx, k b hb x hx]
  | cell b cs => obtain ⟨hi, g⟩ := h; exact ⟨hi, k b (by simp [Res.blks]) _ g⟩
  | snap S => exact fun q hq => k q.1 (List.mem_map.mpr ⟨q, hq, rfl⟩) _ (h q hq)

/-- All of a list is owned, each apart from the others. -/
def Sep (H : Heap) : List Res → Prop
  | [] => True
  | r :: l => r.holds H ∧ (∀ q ∈ l, ∀ c ∈ r.blks, c ∉ q.blks) ∧ Sep H l
theorem Sep.all {H : Heap} : ∀ {L : List Res}, Sep H L → ∀ r ∈ L, r.holds H
  | r :: l, ⟨h1, h2, h3⟩, q, hq => by
    rcases List.mem_cons.mp hq with rfl | hq
    · exact h1
    · exact h3.all q hq
theorem Sep.get {H : Heap} {L : List Res} (h : Sep H L) {k : Nat} {r : Res} (hk : L[k]? = some r) : r.holds H := h.all r (List.mem_of_getElem? hk)
theorem Sep.keep {H G : Heap} : ∀ {L : List Res}, Sep H L → (∀ r ∈ L, ∀ c ∈ r.blks, ∀ x, H c = some x → G c = some x) → Sep G L
  | [], _, _ => trivial
  | r :: l, ⟨h1, h2, h3⟩, k => ⟨h1.keep (k r List.mem_cons_self), h2, h3.keep fun q hq => k q (List.mem_cons_of_mem _ hq)⟩
theorem Sep.grow {H G : Heap} {L : List Res} (h : Sep H L) (k : ∀ c x, H c = some x → G c = some x) : Sep G L := h.keep fun _ _ c _ x hx => k c x hx
theorem Sep.add {H G : Heap} {L : List Res} {r : Res} (h : Sep H L) (hr : r.holds G) (k : ∀ c x, H c = some x → G c = some x) (hn : ∀ c ∈ r.blks, H c = none) : Sep G (r :: L) :=
  ⟨hr, fun q hq c hc hc' => (h.all q hq).alive hc' (hn c hc), h.grow k⟩
theorem Sep.upd {H G : Heap} : ∀ {L : List Res} {k : Nat} {r r' : Res}, Sep H L → L[k]? = some r → r'.holds G → (∀ c x, c ∉ r.blks → H c = some x → G c = some x) → (∀ c ∈ r'.blks, c ∈ r.blks ∨ H c = none) → Sep G (L.set k r')
  | q :: l, 0, r, r', ⟨h1, h2, h3⟩, hk, hr, hb, hn => by
    simp only [List.getElem?_cons_zero, Option.some.injEq] at hk
    subst hk
    refine ⟨hr, fun p hp c hc hc' => ?_, h3.keep fun p hp c hc x hx => hb c x (fun g => h2 p hp c g hc) hx⟩
    rcases hn c hc with g | g
    · exact h2 p hp c g hc'
    · exact (h3.all p hp).alive hc' g
  | q :: l, k + 1, r, r', ⟨h1, h2, h3⟩, hk, hr, hb, hn => by
    simp only [List.getElem?_cons_succ] at hk
    have hm := List.mem_of_getElem? hk
    refine ⟨h1.keep fun c hc x hx => hb c x (fun g => h2 r hm c hc g) hx, fun p hp c hc hc' => ?_, h3.upd hk hr hb hn⟩
    rcases List.mem_or_eq_of_mem_set hp with hp | rfl
    · exact h2 p hp c hc hc'
    · rcases hn c hc' with g | g
      · exact h2 r hm c hc g
      · exact h1.alive hc g

def SepAt (H : Heap) (L : List Res) : Prop := (∀ (i : Nat) (r : Res), L[i]? = some r → r.holds H) ∧ ∀ (i j : Nat) (r q : Res), i ≠ j → L[i]? = some r → L[j]? = some q → ∀ c ∈ r.blks, c ∉ q.blks
theorem Sep.to {H : Heap} : ∀ {L : List Res}, Sep H L → SepAt H L
  | [], _ => ⟨fun i r h => by simp at h, fun i j r q _ h => by simp at h⟩
  | r :: l, ⟨h1, h2, h3⟩ => by
    obtain ⟨g1, g2⟩ := h3.to
    refine ⟨fun i q hq => ?_, fun i j a b hij ha hb => ?_⟩
    · cases i with
      | zero => simp at hq; exact hq ▸ h1
      | succ i => exact g1 i q (by simpa using hq)
    · cases i with
      | zero =>
        cases j with
        | zero => exact absurd rfl hij
        | succ j => simp at ha hb; subst ha; exact h2 b (List.mem_of_getElem? hb)
      | succ i =>
        cases j with
        | zero => simp at ha hb; subst hb; exact fun c hc hc' => h2 a (List.mem_of_getElem? ha) c hc' hc
        | succ j => exact g2 i j a b (by omega) (by simpa using ha) (by simpa using hb)
def nodupB : List Nat → Bool
  | [] => true
  | k :: l => !l.contains k && nodupB l
theorem Sep.pick {H : Heap} {L : List Res} (h : Sep H L) : ∀ (ks : List Nat) {L' : List Res}, nodupB ks = true → ks.map (fun k => L[k]?) = L'.map some → Sep H L'
  | [], L', _, hp => by
    have : L' = [] := by cases L' with
      | nil => rfl
      | cons _ _ => simp at hp
    subst this; trivial
  | k :: ks, L', hn, hp => by
    cases L' with
    | nil => simp at hp
    | cons r l =>
      simp only [List.map_cons, List.cons.injEq] at hp
      simp only [nodupB, Bool.and_eq_true, Bool.not_eq_true', List.contains_eq_mem, decide_eq_false_iff_not] at hn
      obtain ⟨g1, g2⟩ := h.to
      refine ⟨g1 k r hp.1, fun q hq => ?_, h.pick ks hn.2 hp.2⟩
      obtain ⟨j, hj, rfl⟩ := List.getElem_of_mem hq
      have hl : ks.length = l.length := by have := congrArg List.length hp.2; simpa using this
      have hj' : j < ks.length := by omega
      have hjl : L[ks[j]]? = some l[j] := by
        have := congrArg (fun z => z[j]?) hp.2
        simpa [hj, hj'] using this
      exact g2 k ks[j] r l[j] (fun e => hn.1 (e ▸ List.getElem_mem hj')) hp.1 hjl
theorem Sep.void : Sep (fun _ => none) [] := trivial
theorem Sep.append {H : Heap} : ∀ {L F : List Res}, Sep H (L ++ F) → Sep H L
  | [], _, _ => trivial
  | r :: l, F, ⟨h1, h2, h3⟩ => ⟨h1, fun q hq => h2 q (List.mem_append_left _ hq), h3.append⟩

/-- Values that lead to what is owned, read for the while of a call. -/
inductive RAS (L : List Res) : AV → AV → Prop where
  | same (a : AV) : RAS L a a
  | row {k s : Nat} {v : AV} {xs : List AV} (h : L[k]? = some (.row s v xs)) : RAS L v (.list s xs)
  | nil (s : Nat) : RAS L .nil (.list s [])
  | rows {k s : Nat} {v : AV} {ws : List AV} {xss : List (List AV)} (h : L[k]? = some (.rows s v ws xss none)) : RAS L v (.list 1 (xss.map (AV.list s)))
  | rpre (xs : List AV) (n : Nat) : RAS L (.rptr xs) (.rptr (xs.take n))
  | cell {k b : Nat} {cs : List AV} (h : L[k]? = some (.cell b cs)) : RAS L (.ptr b 0) (.rptr cs)
  | agg {xs ys : List AV} (hl : xs.length = ys.length) (h : ∀ j (h : j < xs.length) (h' : j < ys.length), RAS L (xs[j]) (ys[j])) : RAS L (.agg xs) (.agg ys)
  | cellc {k b : Nat} {xs ys : List AV} (hk : L[k]? = some (.cell b xs)) (hl : xs.length = ys.length) (h : ∀ j (h : j < xs.length) (h' : j < ys.length), RAS L (xs[j]) (ys[j])) : RAS L (.ptr b 0) (.rptr ys)
  | pool {k : Nat} {ps : List (AV × List AV)} {v : AV} {xs : List AV} (h : L[k]? = some (.pool ps)) (hm : (v, xs) ∈ ps) : RAS L v (.list 1 xs)
  | rowc {k s : Nat} {v : AV} {es ts : List AV} (hk : L[k]? = some (.row s v es)) (hn : ts.length = es.length) (hs : ∀ y ∈ ts, (cells y).length = s) (hl : (flat es).length = (flat ts).length) (h : ∀ j (h : j < (flat es).length) (h' : j < (flat ts).length), RAS L ((flat es)[j]) ((flat ts)[j])) : RAS L v (.list s ts)
theorem RAS.to {H : Heap} {L : List Res} (hL : ∀ r ∈ L, r.holds H) {a b : AV} (h : RAS L a b) : RA H a b := by
  induction h with
  | same a => exact .same a
  | nil s => exact .nil s
  | rpre xs n => exact .rpre xs n
  | @rows k s v ws xss h => exact OwnRows.ra (hL _ (List.mem_of_getElem? h))
  | @row k s v xs h => exact RA.own (hL _ (List.mem_of_getElem? h))
  | @cell k b cs h =>
    obtain ⟨hi, g⟩ := hL _ (List.mem_of_getElem? h)
    exact .ptr (p := 0) g rfl (by simp) fun j hj hj' => by simp; exact .same _
  | agg hl h ih => exact .agg hl ih
  | @pool k ps v xs h hm => exact RA.own (PoolH.all (hL _ (List.mem_of_getElem? h)) (v, xs) hm)
  | @rowc k s v es ts hk hn hs hl h ih =>
    obtain ⟨h1, h2⟩ : Own s H v es := hL _ (List.mem_of_getElem? hk)
    rcases h2 with ⟨rfl, rfl⟩ | ⟨b, o, rfl, rfl⟩ | ⟨b, o, cap, hi, rfl, g1, g2, g3, g4⟩
    · obtain rfl := List.eq_nil_of_length_eq_zero hn; exact .nil s
    · obtain rfl := List.eq_nil_of_length_eq_zero hn; exact .slc0 b o s
    · refine .slc (p := 0) g1 (by simp) hn g3 hs (by simp [flat_length h1]) fun j hj hj' => ?_
      simp only [Nat.zero_add]
      exact ih j (by simpa using hj') hj
  | @cellc k b xs ys hk hl h ih =>
    obtain ⟨hi, g⟩ := hL _ (List.mem_of_getElem? hk)
    exact .ptr (p := 0) g rfl (by simp [hl]) fun j hj hj' => by simp only [List.drop_zero] at hj' ⊢; exact ih j hj' hj
def RASs (L : List Res) : List AV → List AV → Prop
  | [], [] => True
  | a :: as, b :: bs => RAS L a b ∧ RASs L as bs
  | _, _ => False
theorem RASs.to {H : Heap} {L : List Res} (hL : ∀ r ∈ L, r.holds H) : ∀ {as bs : List AV}, RASs L as bs → RAs H as bs
  | [], [], _ => trivial
  | [], _ :: _, h => h.elim
  | _ :: _, [], h => h.elim
  | _ :: _, _ :: _, h => ⟨h.1.to hL, RASs.to hL h.2⟩
theorem RASs.get {L : List Res} : ∀ {xs ys : List AV}, RASs L xs ys → xs.length = ys.length ∧ ∀ j (h : j < xs.length) (h' : j < ys.length), RAS L (xs[j]) (ys[j])
  | [], [], _ => ⟨rfl, fun j h => by simp at h⟩
  | [], _ :: _, h => h.elim
  | _ :: _, [], h => h.elim
  | x :: xs, y :: ys, h => by
    obtain ⟨i1, i2⟩ := RASs.get h.2
    refine ⟨by simp [i1], fun j hj hj' => ?_⟩
    cases j with
    | zero => exact h.1
    | succ j => exact i2 j (by simpa using hj) (by simpa using hj')
theorem RAS.aggL {L : List Res} {xs ys : List AV} (h : RASs L xs ys) : RAS L (.agg xs) (.agg ys) := .agg h.get.1 h.get.2
theorem RAS.cellL {L : List Res} {k b : Nat} {xs ys : List AV} (hk : L[k]? = some (.cell b xs)) (h : RASs L xs ys) : RAS L (.ptr b 0) (.rptr ys) := .cellc hk h.get.1 h.get.2

section
variable {P : Program} {o : Oper} {e : Env} {H : Heap} {K : AV → Heap → Prop}

theorem Quiet.cast {u v : AV} {D : List Nat} (h : Quiet P o e H u D) (k : u = v) : Quiet P o e H v D := k ▸ h
theorem call_ops {fo : Operand} {as : Array Operand} {ts : Array TypeId} (ho : o.op = .call ⟨.value fo, as, ts⟩) {e' : Env} (ha : Agr o e e') : ev e' fo = ev e fo ∧ as.toList.map (ev e') = as.toList.map (ev e) := by
  have hmem : ∀ x, x = fo ∨ x ∈ as.toList → x ∈ o.op.operands := by
    intro x hx
    rw [ho]
    rcases hx with rfl | hx
    · simp [Op.operands, Call.operands]
    · simp only [Array.mem_toList_iff] at hx
      simp [Op.operands, Call.operands, hx]
  exact ⟨ha fo (hmem fo (.inl rfl)), List.map_congr_left fun x hx => ha x (hmem x (.inr hx))⟩
/-- A call by a contract that leaves memory as it was. -/
theorem qCall {fo : Operand} {as : Array Operand} {ts : Array TypeId} {f : FuncId} {first caps bs : List AV} {u : AV} (ho : o.op = .call ⟨.value fo, as, ts⟩) (hf : ev e fo = .fn (.func f) first caps)
    (hc : callable P f = true) (h : PC P f bs fun v => v = u) (hb : bs = first ++ as.toList.map (ev e) ++ caps) : Quiet P o e H u [] := ARL.quietCall ho hf hc h hb
/-- The same; arguments that are owned are read. -/
theorem qCallR {L : List Res} (hS : Sep H L) {fo : Operand} {as : Array Operand} {ts : Array TypeId} {f : FuncId} {first caps bs : List AV} {u : AV} (ho : o.op = .call ⟨.value fo, as, ts⟩) (hf : ev e fo = .fn (.func f) first caps)
    (hc : callable P f = true) (h : PC P f bs fun v => v = u) (hb : RASs L (first ++ as.toList.map (ev e) ++ caps) bs) (hs : Scal u) : Quiet P o e H u (L.flatMap Res.blks) := by
  intro e' H' ha hD K k
  obtain ⟨e1, e2⟩ := call_ops ho ha
  have hL : ∀ r ∈ L, r.holds H' := fun r hr => (hS.all r hr).keep fun c hc x hx => by rw [hD c (List.mem_flatMap.mpr ⟨r, hr, hc⟩)]; exact hx
  refine Heavy.mono (K := fun v G => v = u ∧ G = H') (fun e2' ha2 => ?_) fun v G g => by rw [g.1, g.2]; exact k
  obtain ⟨e3, e4⟩ := call_ops ho ha2
  exact opCall ho (by rw [e1]; exact hf) hc (PC.read h (by rw [e2]; exact hb.to hL) (fun v hv => hv ▸ hs)) e2' ha2
theorem HC.frz {f : FuncId} {as : List AV} {s : Nat} {xs : List AV} (h : HC P f as H fun v G => Fresh s H v G xs) : HC P f as H fun v G => v = .list s xs ∧ G = H := by
  intro B ι w vs hr hv
  refine (h B ι w vs hr hv).mono ?_
  rintro x w' ⟨v, r, κ, G, h1, ⟨g1, g2, g3⟩, h3, h4, h5⟩
  obtain ⟨μ, m1, m2, m3⟩ := V.own h5 g1 h3
  refine ⟨.list s xs, r, μ, H, h1, ⟨rfl, rfl⟩, m2, Imm.le_trans h4 m1, m3.less fun c y hy => ?_⟩
  have hc : c ∉ rowB v := fun hc => by rw [g3 c hc] at hy; cases hy
  simp only [hc, if_false]
  exact g2 c y hy
/-- A call that hands back a row of its own, told at once as what nobody writes. -/
theorem qCallRL {L : List Res} (hS : Sep H L) {fo : Operand} {as : Array Operand} {ts : Array TypeId} {f : FuncId} {first caps bs : List AV} {s : Nat} {xs : List AV} (ho : o.op = .call ⟨.value fo, as, ts⟩) (hf : ev e fo = .fn (.func f) first caps)
    (hc : callable P f = true) (h : PO P f bs s xs) (hb : RASs L (first ++ as.toList.map (ev e) ++ caps) bs) (hs : ∀ x ∈ flat xs, Scal x) : Quiet P o e H (.list s xs) (L.flatMap Res.blks) := by
  intro e' H' ha hD K k
  obtain ⟨e1, e2⟩ := call_ops ho ha
  have hL : ∀ r ∈ L, r.holds H' := fun r hr => (hS.all r hr).keep fun c hc x hx => by rw [hD c (List.mem_flatMap.mpr ⟨r, hr, hc⟩)]; exact hx
  refine Heavy.mono (K := fun v G => v = .list s xs ∧ G = H') (fun e2' ha2 => ?_) fun v G g => by rw [g.1, g.2]; exact k
  exact opCall ho (by rw [e1]; exact hf) hc (HC.frz (PO.read h (by rw [e2]; exact hb.to hL) hs)) e2' ha2
/-- A call that hands back a row of its own. -/
theorem hCallO {L : List Res} (hS : Sep H L) {fo : Operand} {as : Array Operand} {ts : Array TypeId} {f : FuncId} {first caps bs : List AV} {s : Nat} {xs : List AV} (ho : o.op = .call ⟨.value fo, as, ts⟩) (hf : ev e fo = .fn (.func f) first caps)
    (hc : callable P f = true) (h : PO P f bs s xs) (hb : bs = first ++ as.toList.map (ev e) ++ caps) (k : ∀ v G, (∀ c x, H c = some x → G c = some x) → Sep G (.row s v xs :: L) → K v G) : Heavy P o e H K :=
  opCall ho hf hc (by rw [← hb]; exact (h.at H).mono fun v G ⟨g1, g2, g3⟩ => k v G g2 (hS.add g1 g2 g3))
theorem hCallOR {L : List Res} (hS : Sep H L) {fo : Operand} {as : Array Operand} {ts : Array TypeId} {f : FuncId} {first caps bs : List AV} {s : Nat} {xs : List AV} (ho : o.op = .call ⟨.value fo, as, ts⟩) (hf : ev e fo = .fn (.func f) first caps)
    (hc : callable P f = true) (h : PO P f bs s xs) (hb : RASs L (first ++ as.toList.map (ev e) ++ caps) bs) (hs : ∀ x ∈ flat xs, Scal x) (k : ∀ v G, (∀ c x, H c = some x → G c = some x) → Sep G (.row s v xs :: L) → K v G) : Heavy P o e H K :=
  opCall ho hf hc ((PO.read h (hb.to hS.all) hs).mono fun v G ⟨g1, g2, g3⟩ => k v G g2 (hS.add g1 g2 g3))

/-- A contract over what is owned: L goes in, some L' of which R holds comes out; all else stays. -/
def HS (P : Program) (f : FuncId) (as : List AV) (L : List Res) (R : AV → List Res → Prop) : Prop :=
  ∀ (H : Heap) (S : List (Nat × Blk)), Sep H (L ++ [.snap S]) → HC P f as H fun v G => ∃ L', R v L' ∧ Sep G (L' ++ [.snap S])
theorem Sep.split {H : Heap} : ∀ {L F : List Res}, Sep H (L ++ F) ↔ Sep H L ∧ Sep H F ∧ ∀ r ∈ L, ∀ q ∈ F, ∀ c ∈ r.blks, c ∉ q.blks
  | [], F => by simp [Sep]
  | r :: l, F => by
    simp only [List.cons_append, Sep, Sep.split (L := l) (F := F)]
    constructor
    · rintro ⟨h1, h2, h3, h4, h5⟩
      refine ⟨⟨h1, fun q hq => h2 q (List.mem_append_left _ hq), h3⟩, h4, fun p hp q hq => ?_⟩
      rcases List.mem_cons.mp hp with rfl | hp
      · exact h2 q (List.mem_append_right _ hq)
      · exact h5 p hp q hq
    · rintro ⟨⟨h1, h2, h3⟩, h4, h5⟩
      refine ⟨h1, fun q hq => ?_, h3, h4, fun p hp q hq => h5 p (List.mem_cons_of_mem _ hp) q hq⟩
      rcases List.mem_append.mp hq with hq | hq
      · exact h2 q hq
      · exact h5 r List.mem_cons_self q hq
theorem Sep.shot {H : Heap} {L F : List Res} (h : Sep H (L ++ F)) : ∃ S, Sep H (L ++ [.snap S]) ∧ ∀ (G : Heap) (L' : List Res), Sep G (L' ++ [.snap S]) → Sep G (L' ++ F) := by
  obtain ⟨h1, h2, h3⟩ := Sep.split.mp h
  have hmem : ∀ q, q ∈ (F.flatMap Res.blks).filterMap (fun c => (H c).map fun x => (c, x)) ↔ q.1 ∈ F.flatMap Res.blks ∧ H q.1 = some q.2 := by
    intro q
    rw [List.mem_filterMap]
    constructor
    · rintro ⟨c, hc, hq⟩
      cases hx : H c with
      | none => rw [hx] at hq; cases hq
      | some x => rw [hx] at hq; simp at hq; subst hq; exact ⟨hc, hx⟩
    · rintro ⟨hc, hx⟩
      exact ⟨q.1, hc, by rw [hx]; rfl⟩
  refine ⟨(F.flatMap Res.blks).filterMap (fun c => (H c).map fun x => (c, x)), Sep.split.mpr ⟨h1, ⟨fun q hq => ((hmem q).mp hq).2, by simp, trivial⟩, fun r hr q hq c hc hc' => ?_⟩, fun G L' hG => ?_⟩
  · rw [List.mem_singleton.mp hq] at hc'
    obtain ⟨p, hp, rfl⟩ := List.mem_map.mp hc'
    obtain ⟨t, ht, hc2⟩ := List.mem_flatMap.mp ((hmem p).mp hp).1
    exact h3 r hr t ht _ hc hc2
  · obtain ⟨g1, g2, g3⟩ := Sep.split.mp hG
    have hs := g2.all _ List.mem_cons_self
    refine Sep.split.mpr ⟨g1, h2.keep fun r hr c hc x hx => hs (c, x) ((hmem (c, x)).mpr ⟨List.mem_flatMap.mpr ⟨r, hr, hc⟩, hx⟩), fun r hr q hq c hc hc' => ?_⟩
    obtain ⟨x, hx⟩ := (h2.all q hq).has hc'
    exact g3 r hr _ List.mem_cons_self c hc (List.mem_map.mpr ⟨(c, x), (hmem (c, x)).mpr ⟨List.mem_flatMap.mpr ⟨q, hq, hc'⟩, hx⟩, rfl⟩)
theorem hCallS {A L F : List Res} (hS : Sep H A) (ks : List Nat) (hn : nodupB ks = true) {fo : Operand} {as : Array Operand} {ts : Array TypeId} {f : FuncId} {first caps bs : List AV} {R : AV → List Res → Prop} (ho : o.op = .call ⟨.value fo, as, ts⟩) (hf : ev e fo = .fn (.func f) first caps)
    (hc : callable P f = true) (h : HS P f bs L R) (hp : ks.map (fun k => A[k]?) = (L ++ F).map some) (hb : bs = first ++ as.toList.map (ev e) ++ caps) (k : ∀ v L' G, R v L' → Sep G (L' ++ F) → K v G) : Heavy P o e H K := by
  obtain ⟨S, s1, s2⟩ := (hS.pick ks hn hp).shot
  exact opCall ho hf hc (by rw [← hb]; exact (h H S s1).mono fun v G ⟨L', g1, g2⟩ => k v L' G g1 (s2 G L' g2))

-- rows
theorem kLen {L : List Res} (hS : Sep H L) {j : Nat} {as : Array Operand} {ts : Array TypeId} {x : Operand} {t : TypeId} {α : Type} {f : α → AV} {zs : List α} {s : Nat} {v : AV} (hk : L[j]? = some (.row s v (zs.map f))) (ho : o.op = .call ⟨.builtin .len, as, ts⟩) (ha : as = #[x]) (ht : ts = #[t]) (hu : lenT P t = some false)
    (hx : ev e x = v) : Light P o e H (.int .i64 zs.length) [] := opLenOwn ho ha ht hu hx (hS.get hk : Own _ _ _ _)
theorem kIx {t el s : Nat} {x y : Operand} {α : Type} [Inhabited α] {f : α → AV} {xs : List α} {k : IntKind} {i : Int} {a : α} {v : AV} (h : ix xs i = some a) (ho : o.op = .indexAddr t x y) (hx : ev e x = .list s (xs.map f)) (hy : ev e y = .int k i)
    (ht : elemA P t = some el) (hs : sizeA P el = some s) (hv : v = .rptr (cells (f a))) : Light P o e H v [] := by
  obtain ⟨h0, h1, h2⟩ := ixE h
  exact opIndexMap ho hx hy ht hs h0 h1 (by rw [h2]; exact hv)
theorem kIxO {L : List Res} (hS : Sep H L) {j m t el s : Nat} {x y : Operand} {α : Type} {f : α → AV} {zs : List α} {k : IntKind} {i : Int} {v : AV} (hk : L[j]? = some (.row s v (zs.map f))) (h : ck i zs.length = some m) (ho : o.op = .indexAddr t x y) (hx : ev e x = v) (hy : ev e y = .int k i)
    (ht : elemA P t = some el) (hs : sizeA P el = some s) : Light P o e H (ptrTo v m s) [] := by
  obtain ⟨h0, h1, rfl, h3⟩ := ckE h
  exact opIndexOwnI ho ht hs hx (hS.get hk : Own _ _ _ _) hy h0 h1
theorem kIxOx {L : List Res} (hS : Sep H L) {j t el s : Nat} {x y : Operand} {α : Type} [Inhabited α] {f : α → AV} {zs : List α} {k : IntKind} {i : Int} {a : α} {v : AV} (hk : L[j]? = some (.row s v (zs.map f))) (h : ix zs i = some a) (ho : o.op = .indexAddr t x y) (hx : ev e x = v) (hy : ev e y = .int k i)
    (ht : elemA P t = some el) (hs : sizeA P el = some s) : Light P o e H (ptrTo v i.toNat s) [] := by
  obtain ⟨h0, h1, h2⟩ := ixE h
  exact opIndexOwnI ho ht hs hx (hS.get hk : Own _ _ _ _) hy h0 h1
theorem kLd {L : List Res} (hS : Sep H L) {j t : Nat} {x : Operand} {α : Type} [Inhabited α] {f : α → AV} {zs : List α} {i : Int} {a : α} {v : AV} (hk : L[j]? = some (.row 1 v (zs.map f))) (h : ix zs i = some a) (ho : o.op = .load t x) (ht : aggA P t = some false) (hx : ev e x = ptrTo v i.toNat 1) (hu : ∀ a, cells (f a) = [f a]) :
    Light P o e H (f a) (rowB v) := by
  obtain ⟨h0, h1, h2⟩ := ixE h
  rw [← h2]
  exact opLoadRow ho ht hx (hS.get hk : Own _ _ _ _) (by omega) hu
theorem kLdA {L : List Res} (hS : Sep H L) {j t s : Nat} {x : Operand} {α : Type} [Inhabited α] {f : α → AV} {zs : List α} {i : Int} {a : α} {v : AV} {ys : List AV} (hk : L[j]? = some (.row s v (zs.map f))) (h : ix zs i = some a) (ho : o.op = .load t x) (ht : aggA P t = some true) (hs : sizeA P t = some s) (hx : ev e x = ptrTo v i.toNat s) (hu : f a = .agg ys) :
    Light P o e H (.agg ys) (rowB v) := by
  obtain ⟨h0, h1, h2⟩ := ixE h
  have hO : Own s H v (zs.map f) := hS.get hk
  obtain ⟨b, q, c, rfl⟩ := hO.slc (by simp; omega)
  have hc : c ≠ 0 := by
    obtain ⟨_, _, _, _, g3, _, g5⟩ := hO.blk (by simp; omega)
    omega
  have := opLoadOwnA (H := H) (ys := ys) ho ht hs hx hO (i := i.toNat) (by
    have hi : i.toNat < zs.length := by omega
    have : zs[i.toNat] = a := by rw [← h2]; simp [hi]
    simp [hi, this, hu])
  rw [show rowB (.slc b q (zs.map f).length c) = [b] by simp [rowB, hc]]
  exact this
/-- A field of an element of a row. -/
theorem kLdF {L : List Res} (hS : Sep H L) {j t s p : Nat} {x : Operand} {α : Type} [Inhabited α] {f : α → AV} {zs : List α} {i : Int} {a : α} {u v w : AV} (hk : L[j]? = some (.row s v (zs.map f))) (h : ix zs i = some a) (ho : o.op = .load t x) (ht : aggA P t = some false) (hx : ev e x = u)
    (hu : u = match ptrTo v i.toNat s with | .ptr b q => .ptr b (q + p) | _ => .undef) (hw : (cells (f a))[p]? = some w) : Light P o e H w (rowB v) := by
  obtain ⟨h0, h1, h2⟩ := ixE h
  have hO : Own s H v (zs.map f) := hS.get hk
  obtain ⟨b, q, c, rfl⟩ := hO.slc (by simp; omega)
  have hc : c ≠ 0 := by
    obtain ⟨_, _, _, _, g3, _, g5⟩ := hO.blk (by simp; omega)
    omega
  have := opLoadOwnC (H := H) (u := w) ho ht (by rw [hx, hu]; rfl : ev e x = .ptr b (q + i.toNat * s + p)) hO (i := i.toNat) (v := f a) (by
    have hi : i.toNat < zs.length := by omega
    have : zs[i.toNat] = a := by rw [← h2]; simp [hi]
    simp [hi, this]) hw
  rw [show rowB (.slc b q (zs.map f).length c) = [b] by simp [rowB, hc]]
  exact this
theorem hSt {L : List Res} (hS : Sep H L) {j m t s : Nat} {x y : Operand} {α : Type} {f : α → AV} {zs : List α} {a : α} {i : Int} {v : AV} (hk : L[j]? = some (.row s v (zs.map f))) (hm : ck i zs.length = some m) (ho : o.op = .store t x y) (hs : sizeA P t = some s) (hx : ev e x = ptrTo v m s) (hy : ev e y = f a)
    (h1 : (f a).told = true ∧ (cells (f a)).length = s ∧ (cells (f a)).all AV.one = true) (h : ∀ G, Sep G (L.set j (.row s v ((zs.set m a).map f))) → K .undef G) : Heavy P o e H K :=
  opStoreRow ho hs hx hy (hS.get hk : Own _ _ _ _) (by obtain ⟨_, _, _, h⟩ := ckE hm; simpa using h) h1.1 h1.2.1 h1.2.2 fun G hG hB =>
    h G (hS.upd hk (by rw [List.map_set]; exact hG) (fun c x hc hx => hB c x hc hx) fun c hc => .inl hc)
theorem hApp {L : List Res} (hS : Sep H L) {α : Type} {f : α → AV} {ws us zs : List α} {j : Nat} {x y : Operand} {t t' el s yb : Nat} {z : Value} {v : AV} (hk : L[j]? = some (.row s v (zs.map f))) (ha : app yb zs ws = some us) (ho : o.op = .call ⟨.builtin .append, #[x, y], #[t, t']⟩) (ht : elemA P t = some el) (ht' : t' = t) (hs : sizeA P el = some s)
    (hb : bytesA P el = some yb) (hz : zeroA P el = some z) (hzs : z.cells.size = s) (hx : ev e x = v) (hy : ev e y = .list s (ws.map f)) (h1 : ∀ a, (cells (f a)).all AV.one = true)
    (h : ∀ v' G, Sep G (L.set j (.row s v' (us.map f))) → K v' G) : Heavy P o e H K := by
  obtain ⟨g1, g2, rfl⟩ := appE ha
  refine opAppend ho ht ht' hs hb hz hzs hx (hS.get hk : Own _ _ _ _) hy ?_ (by simpa using g1) (by simpa using g2) fun v' G hO hB hn => h v' G (hS.upd hk (by rw [List.map_append]; exact hO) (fun c x hc hx => hB c x hc hx) hn)
  rw [List.all_eq_true]
  intro x hx
  simp only [flat, List.mem_flatMap, List.mem_map] at hx
  obtain ⟨_, ⟨a, _, rfl⟩, hx⟩ := hx
  exact List.all_eq_true.mp (h1 a) x hx
/-- An owned row behind an owned row. -/
theorem hAppO {L : List Res} (hS : Sep H L) {α : Type} {f : α → AV} {ws us zs : List α} {i j : Nat} {x y : Operand} {t t' el s yb : Nat} {z : Value} {v v2 : AV} (hk : L[j]? = some (.row s v (zs.map f))) (hk2 : L[i]? = some (.row s v2 (ws.map f))) (ha : app yb zs ws = some us) (ho : o.op = .call ⟨.builtin .append, #[x, y], #[t, t']⟩) (ht : elemA P t = some el) (ht' : t' = t) (hs : sizeA P el = some s)
    (hb : bytesA P el = some yb) (hz : zeroA P el = some z) (hzs : z.cells.size = s) (hx : ev e x = v) (hy : ev e y = v2) (h1 : ∀ a, (cells (f a)).all AV.one = true)
    (h : ∀ v' G, Sep G (L.set j (.row s v' (us.map f))) → K v' G) : Heavy P o e H K := by
  obtain ⟨g1, g2, rfl⟩ := appE ha
  refine opAppendG ho ht ht' hs hb hz hzs hx (hS.get hk : Own _ _ _ _) (ys := ws.map f) (fun hr g => by rw [hy] at g; exact Own.src hr (hS.get hk2 : Own _ _ _ _) g) ?_ (by simpa using g1) (by simpa using g2) fun v' G hO hB hn => h v' G (hS.upd hk (by rw [List.map_append]; exact hO) (fun c x hc hx => hB c x hc hx) hn)
  rw [List.all_eq_true]
  intro x hx
  simp only [flat, List.mem_flatMap, List.mem_map] at hx
  obtain ⟨_, ⟨a, _, rfl⟩, hx⟩ := hx
  exact List.all_eq_true.mp (h1 a) x hx
theorem hMk {L : List Res} (hS : Sep H L) {α : Type} {f : α → AV} {z0 : α} {zs : List α} {t el s yb : Nat} {z : Value} {l c : Operand} {k k' : IntKind} {m : Int} (hm : mk yb z0 m = some zs) (hw : 0 < yb) (ho : o.op = .makeSlice t l c) (ht : elemA P t = some el) (hs : sizeA P el = some s) (hb : bytesA P el = some yb) (hz : zeroA P el = some z)
    (hzv : avOf z = f z0) (hzs : z.cells.size = s) (hpos : 0 < s) (hl : ev e l = .int k m) (hc : ev e c = .int k' m) (h : ∀ v G, (∀ c x, H c = some x → G c = some x) → Sep G (.row s v (zs.map f) :: L) → K v G) : Heavy P o e H K := by
  obtain ⟨g1, g2, rfl⟩ := mkE hm
  refine opMake ho ht hs hb hz hzv hzs hpos hl hc g1 g2 ?_ fun v G hO hk hn _ => h v G hk (hS.add (by rw [← replicate_map]; exact hO) hk hn)
  have : (1 : Int) * m ≤ (yb : Int) * m := Int.mul_le_mul_of_nonneg_right (by omega) g1
  omega
theorem hLit {L : List Res} (hS : Sep H L) {α : Type} {f : α → AV} {zs : List α} {t el s : Nat} {len : Nat} {parts : Array (Nat × Operand)} {z : Value} {xs : List AV} (hxs0 : xs = zs.map f) (ho : o.op = .buildSlice t len parts) (ht : elemA P t = some el) (hs : sizeA P el = some s) (hz : zeroA P el = some z) (hzs : z.cells.size = s)
    (hp : parts.toList.map (·.1) = List.range len) (hx : parts.toList.map (fun p => ev e p.2) = xs) (hxs : xs.all AV.told = true) (hc : ∀ x ∈ xs, (cells x).length = s) (hbig : len * s ≤ 16777216)
    (h : ∀ v G, (∀ c x, H c = some x → G c = some x) → Sep G (.row s v (zs.map f) :: L) → K v G) : Heavy P o e H K :=
  opBuildSlice ho ht hs hz hzs hp hx hxs hc hbig fun v G hO hk hn _ => h v G hk (hS.add (by rw [← hxs0]; exact hO) hk hn)
theorem hNil {L : List Res} {s : Nat} {α : Type} {f : α → AV} (hS : Sep H L) : Sep H (.row s .nil (([] : List α).map f) :: L) := hS.add (Own.nil s H) (fun _ _ h => h) (fun c hc => by simp [Res.blks, rowB] at hc)

-- variables in memory
theorem hNew {L : List Res} (hS : Sep H L) {t : Nat} {z : Value} (ho : o.op = .alloc t) (hz : zeroA P t = some z) (h : ∀ b G, (∀ c x, H c = some x → G c = some x) → Sep G (.cell b (cells (avOf z)) :: L) → K (.ptr b 0) G) : Heavy P o e H K :=
  opAllocAt ho hz fun b G hA hk hn => h b G hk (hS.add hA hk (fun c hc => by rw [List.mem_singleton.mp hc]; exact hn))
theorem hBox {L : List Res} (hS : Sep H L) {t : Nat} {x : Operand} {v : AV} (ho : o.op = .box t x) (hx : ev e x = v) (hv : v.told = true) (h : ∀ b G, (∀ c x, H c = some x → G c = some x) → Sep G (.cell b (cells v) :: L) → K (.ptr b 0) G) : Heavy P o e H K :=
  opBox ho hx hv fun b hn => h b _ (fun c x hc => Heap.keep hn hc) (hS.add (r := .cell b (cells v)) ⟨_, Heap.set_same _ _ _⟩ (fun c x hc => Heap.keep hn hc) (fun c hc => by rw [List.mem_singleton.mp hc]; exact hn))
theorem hPut {L : List Res} (hS : Sep H L) {j t b p : Nat} {x y : Operand} {v : AV} {cs : List AV} (hk : L[j]? = some (.cell b cs)) (ho : o.op = .store t x y) (hs : sizeA P t = some 1) (hx : ev e x = .ptr b p) (hy : ev e y = v) (h1 : v.one = true) (hp : p < cs.length)
    (h : ∀ G, Sep G (L.set j (.cell b (cs.set p v))) → K .undef G) : Heavy P o e H K :=
  opStoreAt ho hs hx hy (hS.get hk : At _ _ _) h1 hp fun G hA hN => h G (hS.upd hk hA (fun c x hc hx => hN c x (fun k => hc (by simp [Res.blks, k])) hx) fun c hc => .inl hc)
theorem hPutA {L : List Res} (hS : Sep H L) {j t b p s : Nat} {x y : Operand} {v : AV} {cs : List AV} (hk : L[j]? = some (.cell b cs)) (ho : o.op = .store t x y) (hs : sizeA P t = some s) (hx : ev e x = .ptr b p) (hy : ev e y = v) (hv : v.told = true) (hl : (cells v).length = s) (h1 : (cells v).all AV.one = true) (hp : p + s ≤ cs.length)
    (h : ∀ G, Sep G (L.set j (.cell b (setAll cs p (cells v)))) → K .undef G) : Heavy P o e H K :=
  opStoreAtA ho hs hx hy (hS.get hk : At _ _ _) hv hl h1 hp fun G hA hN => h G (hS.upd hk hA (fun c x hc hx => hN c x (fun k => hc (by simp [Res.blks, k])) hx) fun c hc => .inl hc)
theorem kAt {L : List Res} (hS : Sep H L) {j t b p : Nat} {x : Operand} {v : AV} {cs : List AV} (hk : L[j]? = some (.cell b cs)) (ho : o.op = .load t x) (ht : aggA P t = some false) (hx : ev e x = .ptr b p) (hv : cs[p]? = some v) : Light P o e H v [b] :=
  opLoadAt ho ht hx (hS.get hk : At _ _ _) hv
theorem kAtA {L : List Res} (hS : Sep H L) {j t b p s : Nat} {x : Operand} {v : AV} {cs : List AV} (hk : L[j]? = some (.cell b cs)) (ho : o.op = .load t x) (ht : aggA P t = some true) (hs : sizeA P t = some s) (hx : ev e x = .ptr b p) (hp : p + s ≤ cs.length) (hv : v = .agg ((cs.drop p).take s)) : Light P o e H v [b] :=
  hv ▸ opLoadAtA ho ht hs hx (hS.get hk : At _ _ _) hp
end

theorem wantT {g c : Bool} (h : some g = some (c == true)) : some g = some c := by rw [h]; cases c <;> rfl
theorem wT (c : Bool) : wantOf true (.bool c) = some c := by cases c <;> rfl
theorem wF (c : Bool) : wantOf false (.bool c) = some (!c) := by cases c <;> rfl
theorem wGT (g c : Bool) : wantOf true (bif g then .bool c else .tup []) = some (g && c) := by cases g <;> cases c <;> rfl
theorem wGF (g c : Bool) : wantOf false (bif g then .bool c else .tup []) = some (g && !c) := by cases g <;> cases c <;> rfl

section
variable {P : Program} {ops : Array Oper} {K : Env → Heap → Prop} {o : Oper} {e : Env} {H : Heap}
namespace ASL
variable {r : List Oper}
theorem q {v : AV} {D : List Nat} {d : Nat} (hw : want ops o e = some true) (hd : o.dst = some d) (hq : Quiet P o e H v D) (h : ASL P ops K r (upd e d v) H) : ASL P ops K (o :: r) e H := .inr ⟨hw, by rw [hd]; exact hq.heavy h⟩
theorem g {G : Bool} {v : AV} {D : List Nat} {d : Nat} (a : AV) (c : Bool) (hw : want ops o e = wantOf c a) (hG : wantOf c a = some G) (hd : o.dst = some d) (hq : G = true → Quiet P o e H v D) (h : ASL P ops K r (upd e d (bif G then v else .tup [])) H) : ASL P ops K (o :: r) e H := by
  rw [hG] at hw
  cases G with
  | true => exact .inr ⟨hw, by rw [hd]; exact (hq rfl).heavy h⟩
  | false => exact .inl ⟨hw, by rw [hd]; exact h⟩
theorem x {d : Nat} (hw : want ops o e = some true) (hd : o.dst = some d) (hl : Heavy P o e H fun v G => ASL P ops K r (upd e d v) G) : ASL P ops K (o :: r) e H := heavy hw (by rw [hd]; exact hl)
theorem n (hw : want ops o e = some true) (hd : o.dst = none) (hl : Heavy P o e H fun v G => ASL P ops K r e G) : ASL P ops K (o :: r) e H := heavy hw (by rw [hd]; exact hl)
end ASL
namespace ARL
variable {i : Nat} {m : Bool} {r : List (Nat × Bool × Oper)} {D : List (Nat × List Nat)}
theorem q0 {v : AV} {d : Nat} (hw : want ops o e = some true) (hd : o.dst = some d) (hq : Quiet P o e H v []) (h : ARL P ops K r ((i, []) :: D) (upd e d v) H) : ARL P ops K ((i, m, o) :: r) D e H := .inr (.inl ⟨hw, v, [], hq, by simp, by rw [hd]; exact h⟩)
theorem q {v : AV} {Db : List Nat} {d : Nat} (hw : want ops o e = some true) (hd : o.dst = some d) (hn : ∀ b ∈ Db, H b ≠ none) (hq : Quiet P o e H v Db) (h : ARL P ops K r ((i, Db) :: D) (upd e d v) H) : ARL P ops K ((i, m, o) :: r) D e H := .inr (.inl ⟨hw, v, Db, hq, hn, by rw [hd]; exact h⟩)
theorem fewer : ∀ {r : List (Nat × Bool × Oper)} {D D' : List (Nat × List Nat)} {e : Env} {H : Heap}, (∀ d ∈ D', d ∈ D) → ARL P ops K r D e H → ARL P ops K r D' e H
  | [], D, D', e, H, hd, h => h
  | (i, m, o) :: r, D, D', e, H, hd, h => by
    rcases h with ⟨g1, g2⟩ | ⟨g1, v, Db, g2, g3, g4⟩ | ⟨g1, g0, g2⟩
    · exact .inl ⟨g1, fewer hd g2⟩
    · refine .inr (.inl ⟨g1, v, Db, g2, g3, fewer (fun d hd' => ?_) g4⟩)
      rcases List.mem_cons.mp hd' with h | h
      · exact h ▸ List.mem_cons_self
      · exact List.mem_cons_of_mem _ (hd _ h)
    · exact .inr (.inr ⟨g1, g0, g2.mono fun v G g => ⟨fun d hd' => g.1 d (hd d hd'), fewer hd g.2⟩⟩)
theorem g {G : Bool} {v : AV} {Db : List Nat} {d : Nat} (a : AV) (c : Bool) (hw : want ops o e = wantOf c a) (hG : wantOf c a = some G) (hd : o.dst = some d) (hn : ∀ b ∈ Db, H b ≠ none) (hq : G = true → Quiet P o e H v Db) (h : ARL P ops K r ((i, Db) :: D) (upd e d (bif G then v else .tup [])) H) : ARL P ops K ((i, m, o) :: r) D e H := by
  rw [hG] at hw
  cases G with
  | true => exact .inr (.inl ⟨hw, v, Db, hq rfl, hn, by rw [hd]; exact h⟩)
  | false => exact .inl ⟨hw, by rw [hd]; exact fewer (fun d hd => List.mem_cons_of_mem _ hd) h⟩
/-- Memory of its own is made; what was there stays. -/
theorem x {d : Nat} (hw : want ops o e = some true) (hd : o.dst = some d) (hb : m = true) (hl : Heavy P o e H fun v G => (∀ c x, H c = some x → G c = some x) ∧ ARL P ops K r D (upd e d v) G) : ARL P ops K ((i, m, o) :: r) D e H := keep1 hw hd hb hl
/-- What is owned is written: all that was read ahead is ahead by the edges too. -/
theorem y {d : Nat} (hw : want ops o e = some true) (hd : o.dst = some d) (hb : m = true) (hD : D.all (fun d => depT ops ops.size o d.1 || d.2.isEmpty) = true) (hl : Heavy P o e H fun v G => ARL P ops K r D (upd e d v) G) : ARL P ops K ((i, m, o) :: r) D e H := heavy1 hw hd hb hD hl
theorem n (hw : want ops o e = some true) (hd : o.dst = none) (hb : m = true) (hD : D.all (fun d => depT ops ops.size o d.1 || d.2.isEmpty) = true) (hl : Heavy P o e H fun v G => ARL P ops K r D e G) : ARL P ops K ((i, m, o) :: r) D e H := heavyD hw hb hD (by rw [hd]; exact hl)
end ARL
theorem Sep.aliveAll {L : List Res} (h : Sep H L) : ∀ b ∈ L.flatMap Res.blks, H b ≠ none := fun b hb => by
  obtain ⟨r, h1, h2⟩ := List.mem_flatMap.mp hb
  exact (h.all r h1).alive h2
theorem Sep.aliveR {L : List Res} (h : Sep H L) {k s : Nat} {v : AV} {xs : List AV} (hk : L[k]? = some (.row s v xs)) : ∀ b ∈ rowB v, H b ≠ none := fun b hb => (h.get hk).alive (r := .row s v xs) hb
theorem Sep.aliveC {L : List Res} (h : Sep H L) {k b : Nat} {cs : List AV} (hk : L[k]? = some (.cell b cs)) : ∀ c ∈ [b], H c ≠ none := fun c hc => (h.get hk).alive (r := .cell b cs) hc
theorem noneAlive : ∀ b ∈ ([] : List Nat), H b ≠ none := by simp
end

section
variable {P : Program} {n : Nat} {Q : Exit → Env → Heap → Prop} {e : Env} {H : Heap}
theorem AWP.seqM {x y : Code} (M : Env → Heap → Prop) (hy : ∀ e H, M e H → AWP P n y Q e H) (hx : AWP P n x (QThen M Q) e H) : AWP P n (.seq x y) Q e H :=
  AWP.seq (hx.mono fun ex e' H' k => by cases ex <;> first | exact hy _ _ k | exact k)
theorem QThen.nrm {A : Env → Heap → Prop} (h : A e H) : QThen A Q .normal e H := h
theorem QThen.ext {A : Env → Heap → Prop} {id : Nat} (h : Q (.exit id) e H) : QThen A Q (.exit id) e H := h
theorem QBlock.hit {id : Nat} (h : Q .normal e H) : QBlock id Q (.exit id) e H := by simpa [QBlock] using h
theorem QBlock.miss {id k : Nat} (hk : Nat.beq k id = false) (h : Q (.exit k) e H) : QBlock id Q (.exit k) e H := by
  have : k ≠ id := fun g => by subst g; simp at hk
  simpa [QBlock, this] using h
theorem QBlock.nrm {id : Nat} (h : Q .normal e H) : QBlock id Q .normal e H := h
theorem QBlock.ret {id : Nat} (h : Q .ret e H) : QBlock id Q .ret e H := h
theorem AWP.ifB {α : Type} {o : Operand} {x y : Code} {c : Bool} {a b z : α} (hF : (if c = true then a else b) = z) (hc : ev e o = .bool c) (ht : c = true → a = z → AWP P n x Q e H) (hf : c = false → b = z → AWP P n y Q e H) : AWP P n (.cond o x y) Q e H := by
  refine AWP.cond hc (fun h => ht h ?_) (fun h => hf h ?_)
  · rw [if_pos h] at hF; exact hF
  · rw [if_neg (by rw [h]; simp)] at hF; exact hF
theorem AWP.ifP {α : Type} {o : Operand} {x y : Code} {p : Prop} [Decidable p] {a b z : α} (hF : (if p then a else b) = z) (hc : ev e o = .bool (decide p)) (ht : p → a = z → AWP P n x Q e H) (hf : ¬ p → b = z → AWP P n y Q e H) : AWP P n (.cond o x y) Q e H := by
  refine AWP.cond hc (fun h => ?_) (fun h => ?_)
  · have h := of_decide_eq_true h; rw [if_pos h] at hF; exact ht h hF
  · have h := of_decide_eq_false h; rw [if_neg h] at hF; exact hf h hF
/-- A loop that does what a plain loop does. -/
theorem AWP.loopF {c : Code} {σ ρ ω : Type} {body : σ → Option (σ ⊕ ρ)} {s0 : σ} {o : ρ} (hl : E.loop body s0 = some o) (S : σ → ω → List (Nat × AV)) (L : σ → ω → List Res) (w0 : ω) (ht : Told e (S s0 w0)) (hS : Sep H (L s0 w0))
    (round : ∀ s w H, Sep H (L s w) → ∀ x, body s = some x → (∀ o', x = .inr o' → o' = o) → AWP P n c (QThen (fun e' H' => ∃ s' w', x = .inl s' ∧ Told e' (S s' w') ∧ Sep H' (L s' w')) Q) (envOf (S s w)) H) : AWP P n (.loop c) Q e H := by
  obtain ⟨k, hk⟩ := loop_iff.mp hl
  refine AWP.loop (fun m e H => ∃ s w, iterN body m s = some o ∧ Told e (S s w) ∧ Sep H (L s w)) (m := k) ⟨s0, w0, hk, ht, hS⟩ ?_
  rintro m e H ⟨s, w, hm, hT, hS⟩
  cases m with
  | zero => cases hm
  | succ m =>
    simp only [iterN] at hm
    cases hb : body s with
    | none => rw [hb] at hm; cases hm
    | some x =>
      rw [hb] at hm
      refine AWP.only _ hT ((round s w H hS x hb (fun o' ho => by subst ho; simpa using hm)).mono ?_)
      intro ex e' H' hq
      cases ex with
      | normal =>
        obtain ⟨s', w', rfl, h2, h3⟩ := hq
        exact ⟨m, by omega, s', w', hm, h2, h3⟩
      | exit id => exact hq
      | goto l => exact hq
      | ret => exact hq
      | panic c => exact hq
      | outgrown => exact hq

/-- What is owned is told as what nobody writes: slots, and cells of variables. -/
def FzC (v a : AV) : List AV → List AV → Prop
  | [], [] => True
  | x :: xs, y :: ys => (x = y ∨ (x = v ∧ y = a)) ∧ FzC v a xs ys
  | _, _ => False
def FzE (e : Env) (v a : AV) : List (Nat × AV) → Prop
  | [] => True
  | (t, u) :: r => (e t = u ∨ (e t = v ∧ u = a) ∨ ∃ xs ys, e t = .agg xs ∧ u = .agg ys ∧ FzC v a xs ys) ∧ FzE e v a r
def FzL (v a : AV) : List Res → List Res → Prop
  | [], [] => True
  | .row s w xs :: l, r :: m => r = .row s w xs ∧ FzL v a l m
  | .cell b cs :: l, r :: m => (∃ ds, r = .cell b ds ∧ FzC v a cs ds) ∧ FzL v a l m
  | .snap S :: l, r :: m => r = .snap S ∧ FzL v a l m
  | .rows s w ws xss h :: l, r :: m => r = .rows s w ws xss h ∧ FzL v a l m
  | _, _ => False
theorem FzC.same {v a : AV} : ∀ (cs : List AV), FzC v a cs cs
  | [] => trivial
  | x :: xs => ⟨.inl rfl, FzC.same xs⟩
theorem FzC.get {v a : AV} : ∀ {xs ys : List AV}, FzC v a xs ys → xs.length = ys.length ∧ ∀ p (h : p < xs.length) (h' : p < ys.length), xs[p] = ys[p] ∨ (xs[p] = v ∧ ys[p] = a)
  | [], [], _ => ⟨rfl, fun p h => by simp at h⟩
  | [], _ :: _, h => h.elim
  | _ :: _, [], h => h.elim
  | x :: xs, y :: ys, h => by
    obtain ⟨i1, i2⟩ := FzC.get h.2
    refine ⟨by simp [i1], fun p hp hp' => ?_⟩
    cases p with
    | zero => exact h.1
    | succ p => exact i2 p (by simpa using hp) (by simpa using hp')
theorem FzE.less {e : Env} {v a : AV} : ∀ {l : List (Nat × AV)}, FzE e v a l → ∀ t, envOf l t = .undef ∨ envOf l t = e t ∨ (e t = v ∧ envOf l t = a) ∨ ∃ xs ys, e t = .agg xs ∧ envOf l t = .agg ys ∧ FzC v a xs ys
  | [], _, t => .inl rfl
  | (s, u) :: r, ⟨h, k⟩, t => by
    by_cases hs : t = s
    · subst hs
      right
      simp only [envOf, upd_same]
      rcases h with h | h
      · exact .inl h.symm
      · exact .inr h
    · simp only [envOf, upd_ne _ u hs]; exact FzE.less k t
theorem V.fzC {κ : Imm} {v a : AV} (hva : ∀ u, V κ v u → V κ a u) {xs ys : List AV} (h : FzC v a xs ys) {u : Value} (hu : V κ (.agg xs) u) : V κ (.agg ys) u := by
  obtain ⟨cs, rfl, hl, hc⟩ := hu.agg_inv
  obtain ⟨g1, g2⟩ := h.get
  refine .agg cs (by omega) fun p hp => ?_
  have := hc p (by omega)
  rcases g2 p (by omega) hp with e | ⟨e1, e2⟩
  · rw [← e]; exact this
  · rw [e2]; rw [e1] at this; exact hva _ this
/-- One variable's cells told otherwise. -/
theorem Rel.recell {B : Base} {ι : Imm} {H : Heap} {w : World} (hr : Rel B ι H w) {b hi : Nat} {cs ds : List AV} (hb : H b = some ⟨0, cs, hi, none⟩) (hl : cs.length = ds.length) (h : ∀ p (h : p < cs.length) (h' : p < ds.length) v, V ι (cs[p]) v → V ι (ds[p]) v) : Rel B ι (H.set b ⟨0, ds, hi, none⟩) w := by
  refine ⟨hr.below, hr.size, hr.imm, hr.iold, fun c x hx => ?_, fun c x hx p hp => ?_, fun c x hx => ?_, fun c x hx q hq => (by
    by_cases hc : c = b
    · subst hc; rw [Heap.set_same] at hx; cases hx; cases hq
    · rw [Heap.set_ne _ _ hc] at hx; exact hr.obj c x hx q hq)⟩
  · by_cases hc : c = b
    · subst hc; rw [Heap.set_same] at hx; cases hx; have := hr.lo c _ hb; simpa [← hl] using this
    · rw [Heap.set_ne _ _ hc] at hx; exact hr.lo c x hx
  · by_cases hc : c = b
    · subst hc; rw [Heap.set_same] at hx; cases hx
      obtain ⟨v, g1, g2⟩ := hr.cell c _ hb p (by simp only at hp ⊢; omega)
      exact ⟨v, g1, h p _ hp v g2⟩
    · rw [Heap.set_ne _ _ hc] at hx; exact hr.cell c x hx p hp
  · by_cases hc : c = b
    · subst hc; rw [Heap.set_same] at hx; cases hx; exact fun o h1 h2 => hr.room c _ hb o h1 h2
    · rw [Heap.set_ne _ _ hc] at hx; exact hr.room c x hx
theorem FzL.blks {v a : AV} : ∀ {l m : List Res}, FzL v a l m → ∀ q ∈ m, ∃ p ∈ l, p.blks = q.blks
  | [], [], _, q, hq => by simp at hq
  | [], _ :: _, h, _, _ => h.elim
  | .row _ _ _ :: _, [], h, _, _ => h.elim
  | .cell _ _ :: _, [], h, _, _ => h.elim
  | .snap _ :: _, [], h, _, _ => h.elim
  | .rows _ _ _ _ _ :: _, [], h, _, _ => h.elim
  | .rows s u ws xss o :: l, r :: m, h, q, hq => by
    obtain ⟨rfl, h⟩ := h
    rcases List.mem_cons.mp hq with rfl | hq
    · exact ⟨_, List.mem_cons_self, rfl⟩
    · obtain ⟨p, p1, p2⟩ := FzL.blks h q hq; exact ⟨p, List.mem_cons_of_mem _ p1, p2⟩
  | .row s u xs :: l, r :: m, h, q, hq => by
    obtain ⟨rfl, h⟩ := h
    rcases List.mem_cons.mp hq with rfl | hq
    · exact ⟨_, List.mem_cons_self, rfl⟩
    · obtain ⟨p, p1, p2⟩ := FzL.blks h q hq; exact ⟨p, List.mem_cons_of_mem _ p1, p2⟩
  | .snap S :: l, r :: m, h, q, hq => by
    obtain ⟨rfl, h⟩ := h
    rcases List.mem_cons.mp hq with rfl | hq
    · exact ⟨_, List.mem_cons_self, rfl⟩
    · obtain ⟨p, p1, p2⟩ := FzL.blks h q hq; exact ⟨p, List.mem_cons_of_mem _ p1, p2⟩
  | .cell b cs :: l, r :: m, h, q, hq => by
    obtain ⟨⟨ds, rfl, _⟩, h⟩ := h
    rcases List.mem_cons.mp hq with rfl | hq
    · exact ⟨_, List.mem_cons_self, rfl⟩
    · obtain ⟨p, p1, p2⟩ := FzL.blks h q hq; exact ⟨p, List.mem_cons_of_mem _ p1, p2⟩
theorem Rel.recells {B : Base} {ι : Imm} {v a : AV} (hva : ∀ u, V ι v u → V ι a u) {w : World} : ∀ {L L' : List Res} {H : Heap}, FzL v a L L' → Sep H L → Rel B ι H w → ∃ G, Rel B ι G w ∧ Sep G L' ∧ (∀ c, (∀ r ∈ L, c ∉ r.blks) → G c = H c)
  | [], [], H, _, hS, hr => ⟨H, hr, trivial, fun _ _ => rfl⟩
  | [], _ :: _, _, h, _, _ => h.elim
  | .row _ _ _ :: _, [], _, h, _, _ => h.elim
  | .cell _ _ :: _, [], _, h, _, _ => h.elim
  | .snap _ :: _, [], _, h, _, _ => h.elim
  | .rows _ _ _ _ _ :: _, [], _, h, _, _ => h.elim
  | .rows s u ws xss o :: l, r :: m, H, h, ⟨h1, h2, h3⟩, hr => by
    obtain ⟨rfl, h⟩ := h
    obtain ⟨G, g1, g2, g3⟩ := Rel.recells hva h h3 hr
    refine ⟨G, g1, ⟨h1.keep fun c hc x hx => by rw [g3 c fun q hq => h2 q hq c hc]; exact hx, fun q hq c hc => ?_, g2⟩, fun c hc => g3 c fun q hq => hc q (List.mem_cons_of_mem _ hq)⟩
    obtain ⟨p, p1, p2⟩ := h.blks q hq
    rw [← p2]; exact h2 p p1 c hc
  | .row s u xs :: l, r :: m, H, h, ⟨h1, h2, h3⟩, hr => by
    obtain ⟨rfl, h⟩ := h
    obtain ⟨G, g1, g2, g3⟩ := Rel.recells hva h h3 hr
    refine ⟨G, g1, ⟨h1.keep fun c hc x hx => by rw [g3 c fun q hq => h2 q hq c hc]; exact hx, fun q hq c hc => ?_, g2⟩, fun c hc => g3 c fun q hq => hc q (List.mem_cons_of_mem _ hq)⟩
    obtain ⟨p, p1, p2⟩ := h.blks q hq
    rw [← p2]; exact h2 p p1 c hc
  | .snap S :: l, r :: m, H, h, ⟨h1, h2, h3⟩, hr => by
    obtain ⟨rfl, h⟩ := h
    obtain ⟨G, g1, g2, g3⟩ := Rel.recells hva h h3 hr
    refine ⟨G, g1, ⟨h1.keep fun c hc x hx => by rw [g3 c fun q hq => h2 q hq c hc]; exact hx, fun q hq c hc => ?_, g2⟩, fun c hc => g3 c fun q hq => hc q (List.mem_cons_of_mem _ hq)⟩
    obtain ⟨p, p1, p2⟩ := h.blks q hq
    rw [← p2]; exact h2 p p1 c hc
  | .cell b cs :: l, r :: m, H, h, ⟨⟨hi, h1⟩, h2, h3⟩, hr => by
    obtain ⟨⟨ds, rfl, hC⟩, h⟩ := h
    obtain ⟨G, g1, g2, g3⟩ := Rel.recells hva h h3 hr
    have hGb : G b = some ⟨0, cs, hi, none⟩ := by rw [g3 b fun q hq => h2 q hq b (by simp [Res.blks])]; exact h1
    obtain ⟨hl, hp⟩ := hC.get
    have hdis : ∀ q ∈ m, b ∉ q.blks := fun q hq => by
      obtain ⟨p, p1, p2⟩ := h.blks q hq
      rw [← p2]; exact h2 p p1 b (by simp [Res.blks])
    refine ⟨G.set b ⟨0, ds, hi, none⟩, g1.recell hGb hl (fun p hp1 hp2 u hu => ?_), ⟨⟨hi, Heap.set_same _ _ _⟩, fun q hq c hc => ?_, g2.keep fun q hq c hc x hx => ?_⟩, fun c hc => ?_⟩
    · rcases hp p hp1 hp2 with e | ⟨e1, e2⟩
      · rw [← e]; exact hu
      · rw [e2]; rw [e1] at hu; exact hva u hu
    · rw [List.mem_singleton.mp hc]; exact hdis q hq
    · rw [Heap.set_ne]
      · exact hx
      · intro k; subst k; exact hdis q hq hc
    · rw [Heap.set_ne _ _ (fun k => hc (.cell b cs) List.mem_cons_self (by simp [Res.blks, k]))]
      exact g3 c fun q hq => hc q (List.mem_cons_of_mem _ hq)
theorem AWP.frz {c : Code} {L L' : List Res} {k s : Nat} {v : AV} {xs : List AV} (hS : Sep H L) (hk : L[k]? = some (.row s v xs)) (l : List (Nat × AV)) (hl : FzE e v (.list s xs) l) (hL : FzL v (.list s xs) (L.eraseIdx k) L') (h : ∀ G, Sep G L' → AWP P n c Q (envOf l) G) : AWP P n c Q e H := by
  intro B ι a w hr hE
  have hO : Own s H v xs := hS.get hk
  have hrest : Sep H (L.eraseIdx k) ∧ ∀ r ∈ L.eraseIdx k, ∀ d ∈ rowB v, d ∉ r.blks := by
    obtain ⟨g1, g2⟩ := hS.to
    have key : ∀ (L : List Res) (k : Nat) (r : Res), Sep H L → L[k]? = some r → Sep H (L.eraseIdx k) ∧ ∀ q ∈ L.eraseIdx k, ∀ d ∈ r.blks, d ∉ q.blks := by
      intro L
      induction L with
      | nil => intro k r _ h; simp at h
      | cons q l ih =>
        intro k r ⟨h1, h2, h3⟩ hk
        cases k with
        | zero => simp at hk; subst hk; exact ⟨h3, h2⟩
        | succ k =>
          simp only [List.getElem?_cons_succ] at hk
          obtain ⟨i1, i2⟩ := ih k r h3 hk
          refine ⟨⟨h1, fun p hp => h2 p (List.mem_of_mem_eraseIdx hp), i1⟩, fun p hp d hd => ?_⟩
          rcases List.mem_cons.mp hp with rfl | hp
          · exact fun g => h2 r (List.mem_of_getElem? hk) d g hd
          · exact i2 p hp d hd
    exact key L k _ hS hk
  have go : ∀ (κ : Imm) (G : Heap), ι.le κ → Rel B κ G w → (∀ u, V κ v u → V κ (.list s xs) u) → Sep G (L.eraseIdx k) → c.wp P (LQ B n ι Q) a w := by
    intro κ G hle hr' hva hS'
    obtain ⟨G', g1, g2, g3⟩ := Rel.recells hva hL hS' hr'
    refine wp_mono (h G' g2 B κ a w g1 ⟨hE.size, hE.defers, fun t => ?_⟩) fun _ _ _ k => k.mono hle fun _ _ _ h => h
    have hv := (hE.val t).mono hle
    rcases hl.less t with e1 | e1 | ⟨e1, e2⟩ | ⟨xs, ys, e1, e2, e3⟩
    · rw [e1]; exact .undef _
    · rw [e1]; exact hv
    · rw [e2]; rw [e1] at hv; exact hva _ hv
    · rw [e2]; rw [e1] at hv; exact V.fzC hva e3 hv
  obtain ⟨h1, h2⟩ := hO
  rcases h2 with ⟨rfl, rfl⟩ | ⟨b, q, rfl, rfl⟩ | ⟨b, q, cap, hi, rfl, g1, g2, g3, g4⟩
  · exact go ι H (Imm.le_refl _) hr (fun u hu => by rw [hu.nil_inv]; exact .listNil s _ _) hrest.1
  · exact go ι H (Imm.le_refl _) hr (fun u hu => by rw [hu.slc_inv]; exact V.listNil' _ _ _ _ _) hrest.1
  · obtain ⟨κ, f1, f2, f3⟩ := hr.freeze g1
    refine go κ (H.del b) f1 f2 (fun u hu => Fz.V f3 (.row rfl g3 h1 rfl) hu) (hrest.1.keep fun r hr c hc x hx => ?_)
    rw [Heap.del_ne]
    · exact hx
    · intro k; subst k; exact hrest.2 r hr c (by simp [rowB]; omega) hc

theorem QThen.rt {A : Env → Heap → Prop} (h : Q .ret e H) : QThen A Q .ret e H := h
theorem QRet.many {rs : Array ResultVar} {R : AV → Heap → Prop} {vs : List AV} (h : resAll P e H rs.toList vs) (hn : vs.length ≠ 1) (hR : R (.tup vs) H) : QRet P rs R .ret e H := ⟨_, ⟨vs, h, .inr ⟨hn, rfl⟩⟩, hR⟩
theorem QRet.sole {rs : Array ResultVar} {R : AV → Heap → Prop} {v : AV} (h : resAll P e H rs.toList [v]) (hR : R v H) : QRet P rs R .ret e H := ⟨v, ⟨[v], h, .inl ⟨v, rfl, rfl⟩⟩, hR⟩
theorem QRet.end {rs : Array ResultVar} {R : AV → Heap → Prop} (h : QRet P rs R .ret e H) : QRet P rs R .normal e H := h
theorem resOne.at {L : List Res} (hS : Sep H L) {k a t b : Nat} {cs : List AV} (hk : L[k]? = some (.cell b cs)) (he : e a = .ptr b 0) (ha : aggA P t = some true) (hs : sizeA P t = some cs.length) : resOne P (.cell a t) e H (.agg cs) := by
  obtain ⟨hi, g⟩ := (hS.get hk : At _ _ _)
  exact .inr ⟨b, 0, 0, _, he, g, rfl, .inr ⟨_, ha, hs, by simp, by simp⟩⟩
theorem resOne.at1 {L : List Res} (hS : Sep H L) {k a t b : Nat} {v : AV} (hk : L[k]? = some (.cell b [v])) (he : e a = .ptr b 0) (ha : aggA P t = some false) : resOne P (.cell a t) e H v := by
  obtain ⟨hi, g⟩ := (hS.get hk : At _ _ _)
  exact .inr ⟨b, 0, 0, _, he, g, rfl, .inl ⟨ha, rfl⟩⟩
end
end Go.Proofs.Ythdoebgikbfndaa.E
