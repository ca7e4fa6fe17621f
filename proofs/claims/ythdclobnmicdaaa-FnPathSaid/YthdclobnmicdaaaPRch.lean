/- Ways in graphs: what a search down tells by its order, and how points are told into rings. -/
import Derived.Test.YthdclobnmicdaaaQ1
namespace Go.Proofs.Ythdclobnmicdaaa
open Go Go.RowKit E
set_option linter.unusedVariables false

/-- Steps lead from a to b. -/
inductive Rch (adj : Nat → List Nat) : Nat → Nat → Prop where
  | refl (a : Nat) : Rch adj a a
  | head {a b c : Nat} (h : b ∈ adj a) (k : Rch adj b c) : Rch adj a c
section
variable {adj : Nat → List Nat}
theorem Rch.one {a b : Nat} (h : b ∈ adj a) : Rch adj a b := .head h (.refl b)
theorem Rch.trans {a b c : Nat} (h : Rch adj a b) (k : Rch adj b c) : Rch adj a c := by
  induction h with
  | refl => exact k
  | head h _ ih => exact .head h (ih k)
theorem Rch.snoc {a b c : Nat} (h : Rch adj a b) (k : c ∈ adj b) : Rch adj a c := h.trans (.one k)
def Mut (adj : Nat → List Nat) (a b : Nat) : Prop := Rch adj a b ∧ Rch adj b a
theorem Mut.refl (a : Nat) : Mut adj a a := ⟨.refl a, .refl a⟩
theorem Mut.symm {a b : Nat} (h : Mut adj a b) : Mut adj b a := ⟨h.2, h.1⟩
theorem Mut.trans {a b c : Nat} (h : Mut adj a b) (k : Mut adj b c) : Mut adj a c := ⟨h.1.trans k.1, k.2.trans h.2⟩

theorem getD_set {α : Type} {xs : List α} {i j : Nat} {a d : α} (hi : i < xs.length) : (xs.set i a).getD j d = if i = j then a else xs.getD j d := by
  simp only [List.getD_eq_getElem?_getD]
  by_cases e : i = j
  · subst e; simp [hi]
  · simp [e]

def Chain (adj : Nat → List Nat) : List (Nat × Nat) → Prop
  | x :: y :: r => x.1 ∈ adj y.1 ∧ Chain adj (y :: r)
  | _ => True
theorem Chain.tail {x : Nat × Nat} : ∀ {rs : List (Nat × Nat)}, Chain adj (x :: rs) → Chain adj rs
  | [], _ => trivial
  | _ :: _, h => h.2
theorem Chain.swap {p k k' : Nat} : ∀ {rs : List (Nat × Nat)}, Chain adj ((p, k) :: rs) → Chain adj ((p, k') :: rs)
  | [], _ => trivial
  | _ :: _, h => h
theorem Chain.top : ∀ {rs : List (Nat × Nat)} {x : Nat × Nat}, Chain adj (x :: rs) → ∀ y ∈ x :: rs, Rch adj y.1 x.1
  | [], x, _, y, hy => by rw [List.mem_singleton.mp hy]; exact .refl _
  | z :: r, x, h, y, hy => by
    rcases List.mem_cons.mp hy with rfl | hy
    · exact .refl _
    · exact (Chain.top h.2 y hy).snoc h.1

/-- A search down, under way. -/
structure Dfs (adj : Nat → List Nat) (n : Nat) (order : List Nat) (rs : List (Nat × Nat)) (seen : List Bool) : Prop where
  len : seen.length = n
  nd : (order ++ rs.map (·.1)).Nodup
  mem : ∀ v, v < n → (seen.getD v default = true ↔ v ∈ order ++ rs.map (·.1))
  lt : ∀ v, v ∈ order ++ rs.map (·.1) → v < n
  path : Chain adj rs
  at_ : ∀ x ∈ rs, x.2 ≤ (adj x.1).length ∧ ∀ j, j < x.2 → seen.getD ((adj x.1).getD j 0) default = true
  fin : ∀ p ∈ order, ∀ q ∈ adj p, seen.getD q default = true
  J : ∀ i, i < order.length → ∀ j, j ≤ i → ∀ q ∈ adj (order.getD j 0), q ∈ order.take (i + 1) ∨ Rch adj q (order.getD i 0)
variable {n : Nat} {order : List Nat} {rs : List (Nat × Nat)} {seen : List Bool}
theorem Dfs.start : Dfs adj n [] [] (List.replicate n false) :=
  ⟨by simp, by simp, fun v hv => by simp [List.getD_eq_getElem?_getD, List.getElem?_replicate, hv], by simp, trivial, by simp, by simp, fun i h => by simp at h⟩
theorem seen_set {v u : Nat} (hv : v < seen.length) : (seen.set v true).getD u default = true ↔ u = v ∨ seen.getD u default = true := by
  rw [getD_set hv]
  by_cases e : v = u
  · subst e; simp
  · rw [if_neg e]; constructor
    · exact .inr
    · rintro (h | h)
      · exact absurd h.symm e
      · exact h
theorem Dfs.root (h : Dfs adj n order [] seen) {v : Nat} (hv : v < n) (hs : seen.getD v default = false) : Dfs adj n order [(v, 0)] (seen.set v true) := by
  have hl := h.len
  have hno : v ∉ order := fun hm => by
    have := (h.mem v hv).mpr (by simpa using hm); rw [hs] at this; cases this
  refine ⟨by simp [hl], ?_, fun u hu => ?_, fun u hu => ?_, trivial, fun x hx => ?_, fun p hp q hq => ?_, h.J⟩
  · have := h.nd
    simp only [List.map_nil, List.append_nil] at this
    simp only [List.map_cons, List.map_nil]
    rw [List.nodup_append]
    exact ⟨this, by simp, fun a ha b hb e => hno (by rw [List.mem_singleton] at hb; rw [← hb, ← e]; exact ha)⟩
  · rw [seen_set (by omega), h.mem u hu]; simp [or_comm]
  · simp only [List.map_cons, List.map_nil, List.mem_append, List.mem_singleton] at hu
    rcases hu with hu | rfl
    · exact h.lt u (by simpa using hu)
    · exact hv
  · rw [List.mem_singleton.mp hx]; exact ⟨Nat.zero_le _, fun j hj => absurd hj (by simp)⟩
  · rw [seen_set (by omega)]; exact .inr (h.fin p hp q hq)
theorem Dfs.pop {p k : Nat} (h : Dfs adj n order ((p, k) :: rs) seen) (hk : k = (adj p).length) (hadj : ∀ a, a < n → ∀ b ∈ adj a, b < n) : Dfs adj n (order ++ [p]) rs seen := by
  have hp : p < n := h.lt p (by simp)
  have hall : ∀ q ∈ adj p, seen.getD q default = true := fun q hq => by
    obtain ⟨j, hj, rfl⟩ := List.getElem_of_mem hq
    have := (h.at_ (p, k) List.mem_cons_self).2 j (by omega)
    simpa [List.getD_eq_getElem?_getD, hj] using this
  refine ⟨h.len, by simpa using h.nd, fun v hv => by rw [h.mem v hv]; simp, fun v hv => h.lt v (by simpa using hv), h.path.tail, fun x hx => h.at_ x (List.mem_cons_of_mem _ hx), fun q hq => ?_, fun i hi j hj q hq => ?_⟩
  · rcases List.mem_append.mp hq with hq | hq
    · exact h.fin q hq
    · rw [List.mem_singleton.mp hq]; exact hall
  · have hi' : i < order.length + 1 := by simpa using hi
    by_cases e : i < order.length
    · have h1 := h.J i e j hj
      have e1 : (order ++ [p]).getD j 0 = order.getD j 0 := by simp [List.getD_eq_getElem?_getD, List.getElem?_append_left (show j < order.length by omega)]
      have e2 : (order ++ [p]).getD i 0 = order.getD i 0 := by simp [List.getD_eq_getElem?_getD, List.getElem?_append_left e]
      rw [e1] at hq
      rw [e2, List.take_append_of_le_length (by omega)]
      exact h1 q hq
    · obtain rfl : i = order.length := by omega
      have e2 : (order ++ [p]).getD order.length 0 = p := by simp [List.getD_eq_getElem?_getD]
      have e3 : (order ++ [p]).take (order.length + 1) = order ++ [p] := List.take_of_length_le (by simp)
      rw [e2, e3]
      have hsq : seen.getD q default = true ∧ q < n := by
        by_cases ej : j < order.length
        · have e1 : (order ++ [p]).getD j 0 = order.getD j 0 := by simp [List.getD_eq_getElem?_getD, List.getElem?_append_left ej]
          rw [e1] at hq
          have hm : order.getD j 0 ∈ order := by simp [List.getD_eq_getElem?_getD, ej]
          exact ⟨h.fin _ hm q hq, hadj _ (h.lt _ (List.mem_append_left _ hm)) q hq⟩
        · obtain rfl : j = order.length := by omega
          rw [e2] at hq
          exact ⟨hall q hq, hadj p hp q hq⟩
      have hm := (h.mem q hsq.2).mp hsq.1
      simp only [List.map_cons, List.mem_append, List.mem_cons] at hm
      rcases hm with hm | rfl | hm
      · exact .inl (List.mem_append_left _ hm)
      · exact .inr (.refl _)
      · obtain ⟨x, hx, rfl⟩ := List.mem_map.mp hm
        exact .inr (h.path.top x (List.mem_cons_of_mem _ hx))
theorem Dfs.next {p k : Nat} (h : Dfs adj n order ((p, k) :: rs) seen) (hk : k < (adj p).length) (hs : seen.getD ((adj p).getD k 0) default = true) : Dfs adj n order ((p, k + 1) :: rs) seen := by
  refine ⟨h.len, h.nd, h.mem, h.lt, h.path.swap, fun x hx => ?_, h.fin, h.J⟩
  rcases List.mem_cons.mp hx with rfl | hx
  · refine ⟨hk, fun j hj => ?_⟩
    by_cases e : j = k
    · subst e; exact hs
    · exact (h.at_ (p, k) List.mem_cons_self).2 j (by simp at hj; omega)
  · exact h.at_ x (List.mem_cons_of_mem _ hx)
theorem Dfs.push {p k to : Nat} (h : Dfs adj n order ((p, k) :: rs) seen) (hk : k < (adj p).length) (ht : (adj p).getD k 0 = to) (hto : to < n) (hs : seen.getD to default = false) : Dfs adj n order ((to, 0) :: (p, k + 1) :: rs) (seen.set to true) := by
  have hl := h.len
  have hno : to ∉ order ++ ((p, k) :: rs).map (·.1) := fun hm => by
    have := (h.mem to hto).mpr hm; rw [hs] at this; cases this
  refine ⟨by simp [hl], ?_, fun u hu => ?_, fun u hu => ?_, ⟨?_, h.path.swap⟩, fun x hx => ?_, fun p' hp' q hq => ?_, h.J⟩
  · have := h.nd
    rw [List.nodup_append] at this ⊢
    simp only [List.map_cons, List.mem_append, List.mem_cons, not_or] at hno
    refine ⟨this.1, List.nodup_cons.mpr ⟨by simpa using ⟨hno.2.1, fun x y => by have := hno.2.2; simp at this; exact this x y⟩, this.2.1⟩, fun a ha b hb e => ?_⟩
    rcases List.mem_cons.mp hb with rfl | hb
    · exact hno.1 (e ▸ ha)
    · exact this.2.2 a ha b hb e
  · rw [seen_set (by omega), h.mem u hu]
    simp only [List.map_cons, List.mem_append, List.mem_cons]
    constructor
    · rintro (h | h | h | h)
      · exact .inr (.inl h)
      · exact .inl h
      · exact .inr (.inr (.inl h))
      · exact .inr (.inr (.inr h))
    · rintro (h | h | h | h)
      · exact .inr (.inl h)
      · exact .inl h
      · exact .inr (.inr (.inl h))
      · exact .inr (.inr (.inr h))
  · simp only [List.map_cons, List.mem_append, List.mem_cons] at hu
    rcases hu with hu | rfl | hu
    · exact h.lt u (by simp [hu])
    · exact hto
    · exact h.lt u (List.mem_append_right _ (List.mem_cons.mpr hu))
  · show to ∈ adj p
    rw [← ht]; simp [List.getD_eq_getElem?_getD, hk]
  · rcases List.mem_cons.mp hx with rfl | hx
    · exact ⟨Nat.zero_le _, fun j hj => absurd hj (by simp)⟩
    · rcases List.mem_cons.mp hx with rfl | hx
      · refine ⟨hk, fun j hj => ?_⟩
        rw [seen_set (by omega)]
        by_cases e : j = k
        · subst e; exact .inl ht
        · exact .inr ((h.at_ (p, k) List.mem_cons_self).2 j (by simp at hj; omega))
      · obtain ⟨g1, g2⟩ := h.at_ x (List.mem_cons_of_mem _ hx)
        exact ⟨g1, fun j hj => by rw [seen_set (by omega)]; exact .inr (g2 j hj)⟩
  · rw [seen_set (by omega)]; exact .inr (h.fin p' hp' q hq)

/-- What the order of a search down tells in the end. -/
structure Fins (adj : Nat → List Nat) (n : Nat) (order : List Nat) : Prop where
  nd : order.Nodup
  all : ∀ v, v < n → v ∈ order
  lt : ∀ v ∈ order, v < n
  J : ∀ i, i < order.length → ∀ j, j ≤ i → ∀ q ∈ adj (order.getD j 0), q ∈ order.take (i + 1) ∨ Rch adj q (order.getD i 0)
theorem Dfs.fins (h : Dfs adj n order [] seen) (hall : ∀ v, v < n → seen.getD v default = true) : Fins adj n order :=
  ⟨by simpa using h.nd, fun v hv => by simpa using (h.mem v hv).mp (hall v hv), fun v hv => h.lt v (by simpa using hv), h.J⟩
theorem Fins.key (h : Fins adj n order) (hadj : ∀ a, a < n → ∀ b ∈ adj a, b < n) {i : Nat} (hi : i < order.length) (hmax : ∀ j, i < j → j < order.length → ¬ Mut adj (order.getD i 0) (order.getD j 0)) {q : Nat} (hq : Rch adj (order.getD i 0) q) : q ∈ order.take (i + 1) := by
  have key : ∀ r q, Rch adj r q → r ∈ order.take (i + 1) → Rch adj (order.getD i 0) r → q ∈ order.take (i + 1) := by
    intro r q hrq
    induction hrq with
    | refl => exact fun h _ => h
    | @head a b c hab hbc ih =>
      intro hr hpr
      obtain ⟨j, hj, rfl⟩ := List.getElem_of_mem hr
      have hj2 : j < i + 1 ∧ j < order.length := by simpa [Nat.lt_min] using hj
      have hr' : (order.take (i + 1))[j] = order.getD j 0 := by simp [List.getD_eq_getElem?_getD, hj2.2]
      rw [hr'] at hab hpr
      have hb : b ∈ order.take (i + 1) := by
        rcases h.J i hi j (by omega) b hab with g | g
        · exact g
        · have hbn : b < n := hadj _ (h.lt _ (by simp [List.getD_eq_getElem?_getD, hj2.2])) b hab
          obtain ⟨m, hm, hbm⟩ := List.getElem_of_mem (h.all b hbn)
          by_cases hmi : m ≤ i
          · rw [← hbm]
            exact List.mem_of_getElem? (i := m) (by rw [List.getElem?_take_of_lt (by omega)]; exact List.getElem?_eq_getElem hm)
          · exfalso
            refine hmax m (by omega) hm ⟨?_, ?_⟩
            · have : order.getD m 0 = b := by simp [List.getD_eq_getElem?_getD, hm, hbm]
              rw [this]; exact hpr.snoc hab
            · have : order.getD m 0 = b := by simp [List.getD_eq_getElem?_getD, hm, hbm]
              rw [this]; exact g
      exact ih hb (hpr.snoc hab)
  refine key _ q hq ?_ (.refl _)
  exact List.mem_of_getElem? (i := i) (by rw [List.getElem?_take_of_lt (by omega), List.getElem?_eq_getElem hi]; simp [List.getD_eq_getElem?_getD, hi])
/-- The same, the order turned round. -/
theorem Fins.rkey (h : Fins adj n order) (hadj : ∀ a, a < n → ∀ b ∈ adj a, b < n) {k : Nat} (hk : k < order.length) (hmax : ∀ j, j < k → ¬ Mut adj (order.reverse.getD k 0) (order.reverse.getD j 0)) {j : Nat} (hj : j < k) : ¬ Rch adj (order.reverse.getD k 0) (order.reverse.getD j 0) := by
  have e : ∀ j, j < order.length → order.reverse.getD j 0 = order.getD (order.length - 1 - j) 0 := fun j hj => by
    simp [List.getD_eq_getElem?_getD, List.getElem?_reverse hj]
  intro hr
  rw [e k hk, e j (by omega)] at hr
  have h1 := h.key hadj (i := order.length - 1 - k) (by omega) (fun m hm1 hm2 hM => by
    have := hmax (order.length - 1 - m) (by omega)
    rw [e k hk, e _ (by omega), show order.length - 1 - (order.length - 1 - m) = m by omega] at this
    exact this hM) hr
  obtain ⟨m, hm, hme⟩ := List.getElem_of_mem h1
  have hm2 : m < order.length - 1 - k + 1 ∧ m < order.length := by simpa [Nat.lt_min] using hm
  rw [List.getElem_take] at hme
  have h3 : order.getD (order.length - 1 - j) 0 = order[order.length - 1 - j]'(by omega) := by simp [List.getD_eq_getElem?_getD, show order.length - 1 - j < order.length by omega]
  rw [h3] at hme
  have := (List.getElem_inj h.nd).mp hme
  omega

/-- Points are marked, each once. -/
def pour (d : Int) : List Nat → List Int × List Nat → List Int × List Nat
  | [], s => s
  | u :: l, s => pour d l (if s.1.getD u default < 0 then (s.1.set u d, s.2 ++ [u]) else s)
theorem pour_len {d : Int} : ∀ (l : List Nat) (s : List Int × List Nat), (pour d l s).1.length = s.1.length
  | [], s => rfl
  | u :: l, s => by
    unfold pour
    rw [pour_len l]
    split <;> simp
theorem pour_keep {d : Int} : ∀ (l : List Nat) (s : List Int × List Nat) (v : Nat), (∀ u ∈ l, u < s.1.length) → 0 ≤ s.1.getD v default → (pour d l s).1.getD v default = s.1.getD v default
  | [], s, v, _, _ => rfl
  | u :: l, s, v, hl, hv => by
    unfold pour
    split
    · rename_i hu
      have hlt := hl u List.mem_cons_self
      have e : (s.1.set u d).getD v default = s.1.getD v default := by
        rw [getD_set hlt, if_neg]; intro e; subst e; omega
      rw [pour_keep l _ v (fun x hx => by simpa using hl x (List.mem_cons_of_mem _ hx)) (by rw [e]; exact hv), e]
    · exact pour_keep l s v (fun x hx => hl x (List.mem_cons_of_mem _ hx)) hv
/-- Whatever holds and is kept by each marking holds behind all; all of the list are marked. -/
theorem pour_ind {d : Int} (hd : 0 ≤ d) (I : List Int × List Nat → Prop) : ∀ (l : List Nat) (s : List Int × List Nat), (∀ u ∈ l, u < s.1.length) → (∀ out q u, out.length = s.1.length → u ∈ l → out.getD u default < 0 → I (out, q) → I (out.set u d, q ++ [u])) → I s → I (pour d l s) ∧ ∀ u ∈ l, 0 ≤ (pour d l s).1.getD u default
  | [], s, _, _, h => ⟨h, by simp⟩
  | u :: l, s, hl, hk, h => by
    have hlt := hl u List.mem_cons_self
    unfold pour
    split
    · rename_i hu
      have h1 := pour_ind hd I l (s.1.set u d, s.2 ++ [u]) (fun x hx => by simpa using hl x (List.mem_cons_of_mem _ hx)) (fun out q x ho hx => hk out q x (by simpa using ho) (List.mem_cons_of_mem _ hx)) (hk s.1 s.2 u rfl List.mem_cons_self hu h)
      refine ⟨h1.1, fun x hx => ?_⟩
      rcases List.mem_cons.mp hx with rfl | hx
      · rw [pour_keep l _ x (fun y hy => by simpa using hl y (List.mem_cons_of_mem _ hy)) (by rw [getD_set hlt, if_pos rfl]; exact hd), getD_set hlt, if_pos rfl]; exact hd
      · exact h1.2 x hx
    · rename_i hu
      have h1 := pour_ind hd I l s (fun x hx => hl x (List.mem_cons_of_mem _ hx)) (fun out q x ho hx => hk out q x ho (List.mem_cons_of_mem _ hx)) h
      refine ⟨h1.1, fun x hx => ?_⟩
      rcases List.mem_cons.mp hx with rfl | hx
      · rw [pour_keep l s x (fun y hy => hl y (List.mem_cons_of_mem _ hy)) (by omega)]; omega
      · exact h1.2 x hx

/-- The points of a ring are marked, under way. -/
structure Flood (adj radj : Nat → List Nat) (n root : Nat) (ring : Int) (out0 : List Int) (ex : Nat → Prop) (s : List Int × List Nat) : Prop where
  len : s.1.length = n
  old : ∀ v, v < n → 0 ≤ out0.getD v default → s.1.getD v default = out0.getD v default
  new : ∀ v, v < n → out0.getD v default < 0 → s.1.getD v default < 0 ∨ (s.1.getD v default = ring ∧ Rch adj v root)
  stk : ∀ v ∈ s.2, v < n ∧ out0.getD v default < 0 ∧ s.1.getD v default = ring
  closed : ∀ v, v < n → out0.getD v default < 0 → s.1.getD v default = ring → ex v ∨ v ∈ s.2 ∨ ∀ u ∈ radj v, 0 ≤ s.1.getD u default
  rt : s.1.getD root default = ring
variable {radj : Nat → List Nat} {root : Nat} {ring : Int} {out0 : List Int}
theorem Flood.start (hr : root < n) (hl : out0.length = n) (h0 : out0.getD root default < 0) (hring : 0 ≤ ring) : Flood adj radj n root ring out0 (fun _ => False) (out0.set root ring, [root]) := by
  refine ⟨by simpa using hl, fun v hv h => ?_, fun v hv h => ?_, fun v hv => ?_, fun v hv h h' => ?_, ?_⟩
  · dsimp only; rw [getD_set (by omega), if_neg]; intro e; subst e; omega
  · dsimp only; rw [getD_set (by omega)]
    by_cases e : root = v
    · subst e; rw [if_pos rfl]; exact .inr ⟨rfl, .refl _⟩
    · rw [if_neg e]; exact .inl h
  · rw [List.mem_singleton.mp hv]; exact ⟨hr, h0, by dsimp only; rw [getD_set (by omega), if_pos rfl]⟩
  · right; left
    dsimp only at h' ⊢
    rw [getD_set (by omega)] at h'
    by_cases e : root = v
    · subst e; simp
    · rw [if_neg e] at h'; omega
  · dsimp only; rw [getD_set (by omega), if_pos rfl]
/-- One is taken from the pile, and those ahead of it are marked. -/
theorem Flood.step {out : List Int} {q : List Nat} {p : Nat} (h : Flood adj radj n root ring out0 (fun _ => False) (out, q ++ [p])) (hring : 0 ≤ ring) (hrad : ∀ p, p < n → ∀ u ∈ radj p, u < n ∧ p ∈ adj u) : Flood adj radj n root ring out0 (fun _ => False) (pour ring (radj p) (out, q)) := by
  obtain ⟨hp, hp0, hpr⟩ := h.stk p (by simp)
  have hpR : Rch adj p root := by
    rcases h.new p hp hp0 with g | g
    · rw [hpr] at g; omega
    · exact g.2
  have hlen := h.len
  dsimp only at hlen
  have h1 := pour_ind hring (Flood adj radj n root ring out0 (fun v => v = p)) (radj p) (out, q) (fun u hu => by dsimp only; rw [hlen]; exact (hrad p hp u hu).1) (fun o s u ho hu hneg hI => ?_) ?_
  · obtain ⟨hF, hall⟩ := h1
    refine ⟨hF.len, hF.old, hF.new, hF.stk, fun v hv h0 hv' => ?_, hF.rt⟩
    rcases hF.closed v hv h0 hv' with rfl | g | g
    · exact .inr (.inr hall)
    · exact .inr (.inl g)
    · exact .inr (.inr g)
  · have hun := hrad p hp u hu
    have hlo : o.length = n := hI.len
    have hu0 : out0.getD u default < 0 := by
      refine Classical.byContradiction fun g => ?_
      have := hI.old u hun.1 (by omega)
      dsimp only at this; omega
    refine ⟨by simpa using hlo, fun v hv g => ?_, fun v hv g => ?_, fun v hv => ?_, fun v hv g g' => ?_, ?_⟩
    · dsimp only; rw [getD_set (by omega), if_neg (fun e => by subst e; omega)]; exact hI.old v hv g
    · dsimp only; rw [getD_set (by omega)]
      by_cases e : u = v
      · subst e; rw [if_pos rfl]; exact .inr ⟨rfl, .head hun.2 hpR⟩
      · rw [if_neg e]; exact hI.new v hv g
    · dsimp only at hv ⊢
      rcases List.mem_append.mp hv with hv | hv
      · obtain ⟨a1, a2, a3⟩ := hI.stk v hv
        dsimp only at a3
        refine ⟨a1, a2, ?_⟩
        rw [getD_set (by omega)]
        by_cases e : u = v
        · rw [if_pos e]
        · rw [if_neg e]; exact a3
      · rw [List.mem_singleton.mp hv]; exact ⟨hun.1, hu0, by rw [getD_set (by omega), if_pos rfl]⟩
    · dsimp only at g' ⊢
      by_cases e : u = v
      · subst e; exact .inr (.inl (by simp))
      · rw [getD_set (by omega), if_neg e] at g'
        rcases hI.closed v hv g g' with k | k | k
        · exact .inl k
        · exact .inr (.inl (List.mem_append_left _ k))
        · refine .inr (.inr fun x hx => ?_)
          rw [getD_set (by omega)]
          split
          · exact hring
          · exact k x hx
    · dsimp only; rw [getD_set (by omega)]
      split
      · rfl
      · exact hI.rt
  · refine ⟨h.len, h.old, h.new, fun v hv => h.stk v (List.mem_append_left _ hv), fun v hv g g' => ?_, h.rt⟩
    rcases h.closed v hv g g' with k | k | k
    · exact k.elim
    · rcases List.mem_append.mp k with k | k
      · exact .inr (.inl k)
      · exact .inl (List.mem_singleton.mp k)
    · exact .inr (.inr k)

/-- Rings told so far. -/
structure Rings (adj : Nat → List Nat) (n : Nat) (rev : List Nat) (k : Nat) (out : List Int) : Prop where
  len : out.length = n
  lt : ∀ v, v < n → out.getD v default < k
  dom : ∀ v, v < n → (0 ≤ out.getD v default ↔ ∃ j, j < k ∧ Mut adj v (rev.getD j 0))
  eq : ∀ u v, u < n → v < n → 0 ≤ out.getD u default → 0 ≤ out.getD v default → (out.getD u default = out.getD v default ↔ Mut adj u v)
variable {rev : List Nat} {out : List Int} {k : Nat}
theorem Rings.start : Rings adj n rev 0 (List.replicate n (-1)) := by
  have e : ∀ v, v < n → (List.replicate n (-1 : Int)).getD v default = -1 := fun v hv => by simp [List.getD_eq_getElem?_getD, List.getElem?_replicate, hv]
  refine ⟨by simp, fun v hv => by rw [e v hv]; decide, fun v hv => ?_, fun u v hu hv h _ => ?_⟩
  · rw [e v hv]; constructor
    · intro h; exact absurd h (by decide)
    · rintro ⟨j, hj, _⟩; omega
  · rw [e u hu] at h; exact absurd h (by decide)
theorem Rings.skip (h : Rings adj n rev k out) (hr : rev.getD k 0 < n) (h0 : 0 ≤ out.getD (rev.getD k 0) default) : Rings adj n rev (k + 1) out := by
  refine ⟨h.len, fun v hv => by have := h.lt v hv; omega, fun v hv => ?_, h.eq⟩
  rw [h.dom v hv]
  constructor
  · rintro ⟨j, hj, g⟩; exact ⟨j, by omega, g⟩
  · rintro ⟨j, hj, g⟩
    by_cases e : j < k
    · exact ⟨j, e, g⟩
    · obtain rfl : j = k := by omega
      obtain ⟨i, hi, g'⟩ := (h.dom _ hr).mp h0
      exact ⟨i, hi, g.trans g'⟩
theorem Rings.flood (h : Rings adj n order.reverse k out0) (hF : Fins adj n order) (hadj : ∀ a, a < n → ∀ b ∈ adj a, b < n) (hrad : ∀ p u, p < n → u < n → p ∈ adj u → u ∈ radj p) (hk : k < order.length) (h0 : out0.getD (order.reverse.getD k 0) default < 0)
    (hfl : Flood adj radj n (order.reverse.getD k 0) (k : Int) out0 (fun _ => False) (out, [])) : Rings adj n order.reverse (k + 1) out := by
  have hlen2 : order.reverse.length = order.length := by simp
  have hrn : ∀ j, j < order.length → order.reverse.getD j 0 < n := fun j hj => hF.lt _ (by
    have : order.reverse.getD j 0 ∈ order.reverse := by simp [List.getD_eq_getElem?_getD, hj]
    simpa using this)
  have hmax : ∀ j, j < k → ¬ Mut adj (order.reverse.getD k 0) (order.reverse.getD j 0) := fun j hj g => by
    have := (h.dom _ (hrn k hk)).mpr ⟨j, hj, g⟩; omega
  -- what is marked anew is just the ring
  have hiff : ∀ v, v < n → out0.getD v default < 0 → (out.getD v default = k ↔ Mut adj v (order.reverse.getD k 0)) := by
    intro v hv hv0
    constructor
    · intro hvk
      have hR : Rch adj v (order.reverse.getD k 0) := by
        rcases hfl.new v hv hv0 with g | g
        · dsimp only at g; omega
        · exact g.2
      refine Classical.byContradiction fun hno => ?_
      -- the first of v's ring in the order
      have hex : ∃ m, m < order.length ∧ Mut adj v (order.reverse.getD m 0) ∧ ∀ j, j < m → ¬ Mut adj v (order.reverse.getD j 0) := by
        have h1 : ∃ m, m < order.length ∧ Mut adj v (order.reverse.getD m 0) := by
          obtain ⟨m, hm, e⟩ := List.getElem_of_mem (List.mem_reverse.mpr (hF.all v hv))
          exact ⟨m, by simpa using hm, by have : order.reverse.getD m 0 = v := by { rw [List.getD_eq_getElem?_getD, List.getElem?_eq_getElem hm, e]; rfl }
                                          rw [this]; exact .refl v⟩
        obtain ⟨m, hm, hM⟩ := h1
        clear hno
        induction m using Nat.strongRecOn with
        | _ m ih =>
          by_cases hlow : ∃ j, j < m ∧ Mut adj v (order.reverse.getD j 0)
          · obtain ⟨j, hj, g⟩ := hlow
            exact ih j hj (by omega) g
          · exact ⟨m, hm, hM, fun j hj g => hlow ⟨j, hj, g⟩⟩
      obtain ⟨m, hm, hM, hleast⟩ := hex
      have hkm : k < m := by
        rcases Nat.lt_trichotomy m k with g | g | g
        · have := (h.dom v hv).mpr ⟨m, g, hM⟩; omega
        · subst g; exact absurd hM hno
        · exact g
      refine hF.rkey hadj (k := m) hm (fun j hj g => hleast j hj (hM.trans g)) hkm ?_
      exact hM.2.trans hR
    · intro hM
      have key : ∀ a b, Rch adj a b → b = order.reverse.getD k 0 → Rch adj (order.reverse.getD k 0) a → a < n → out.getD a default = k := by
        intro a b hab
        induction hab with
        | refl a => intro e _ _; rw [e]; exact hfl.rt
        | @head a b c hab hbc ih =>
          intro e hra ha
          have hb : b < n := hadj a ha b hab
          have hbk := ih e (hra.snoc hab) hb
          have hun : ∀ x, x < n → Mut adj x (order.reverse.getD k 0) → out0.getD x default < 0 := fun x hx g => by
            refine Classical.byContradiction fun g' => ?_
            obtain ⟨j, hj, gj⟩ := (h.dom x hx).mp (by omega)
            exact hmax j hj (g.symm.trans gj)
          have hb0 := hun b hb ⟨by rw [← e]; exact hbc, hra.snoc hab⟩
          have ha0 := hun a ha ⟨by rw [← e]; exact .head hab hbc, hra⟩
          rcases hfl.closed b hb hb0 hbk with g | g | g
          · exact g.elim
          · simp at g
          · have g1 := g a (hrad b a hb ha hab)
            rcases hfl.new a ha ha0 with g2 | g2
            · dsimp only at g1 g2; omega
            · exact g2.1
      exact key v _ hM.1 rfl hM.2 hv
  have hval : ∀ v, v < n → out.getD v default < 0 ∨ (out0.getD v default < 0 ∧ out.getD v default = k) ∨ (0 ≤ out0.getD v default ∧ out.getD v default = out0.getD v default) := fun v hv => by
    by_cases g : 0 ≤ out0.getD v default
    · exact .inr (.inr ⟨g, hfl.old v hv g⟩)
    · rcases hfl.new v hv (by omega) with g1 | g1
      · exact .inl g1
      · exact .inr (.inl ⟨by omega, g1.1⟩)
  refine ⟨hfl.len, fun v hv => ?_, fun v hv => ?_, fun u v hu hv gu gv => ?_⟩
  · rcases hval v hv with g | g | g
    · omega
    · omega
    · have := h.lt v hv; omega
  · constructor
    · intro g
      rcases hval v hv with g1 | g1 | g1
      · omega
      · exact ⟨k, by omega, (hiff v hv g1.1).mp g1.2⟩
      · obtain ⟨j, hj, gj⟩ := (h.dom v hv).mp g1.1
        exact ⟨j, by omega, gj⟩
    · rintro ⟨j, hj, gj⟩
      by_cases g : 0 ≤ out0.getD v default
      · have := hfl.old v hv g; dsimp only at this; omega
      · by_cases e : j < k
        · exact absurd ((h.dom v hv).mpr ⟨j, e, gj⟩) g
        · obtain rfl : j = k := by omega
          have := (hiff v hv (by omega)).mpr gj
          omega
  · rcases hval u hu with g1 | g1 | g1
    · omega
    · rcases hval v hv with g2 | g2 | g2
      · omega
      · constructor
        · intro _; exact ((hiff u hu g1.1).mp g1.2).trans ((hiff v hv g2.1).mp g2.2).symm
        · intro _; omega
      · have := h.lt v hv
        constructor
        · intro e; omega
        · intro g
          have := (hiff u hu g1.1).mp g1.2
          obtain ⟨j, hj, gj⟩ := (h.dom v hv).mp g2.1
          exact absurd (this.symm.trans (g.trans gj)) (hmax j hj)
    · rcases hval v hv with g2 | g2 | g2
      · omega
      · have := h.lt u hu
        constructor
        · intro e; omega
        · intro g
          have := (hiff v hv g2.1).mp g2.2
          obtain ⟨j, hj, gj⟩ := (h.dom u hu).mp g1.1
          exact absurd (this.symm.trans (g.symm.trans gj)) (hmax j hj)
      · rw [g1.2, g2.2]; exact h.eq u v hu hv g1.1 g2.1
end
end Go.Proofs.Ythdclobnmicdaaa
