/- Plain texts of FnExactGenTakes, put together. -/
import Derived.Test.YthdclobnmicdaaaDGenTakes
import Derived.Test.YthdclobnmicdaaaWf
import Derived.Test.YthdclobnmicdaaaQ1
import Derived.Test.YthdclobnmicdaaaQ0

/- Ways in graphs: what a search down tells by its order, and how points are told into rings. -/
section
namespace Go.Proofs.Ythdclobnmicdaaa
open Go Go.RowKit E
set_option linter.unusedVariables false

/-- Steps lead from a to b. -/
inductive Rch (adj : Nat → List Nat) : Nat → Nat → Prop where
  | refl (a : Nat) : Rch adj a a
  | head {a b c : Nat} (h : b ∈ adj a) (k : Rch adj b c) : Rch adj a c
section
variable {adj : Nat → List Nat}
theorem Rch.one {a b : Nat} (h : b ∈ adj a) : Rch adj a b := .head h (.refl b)
theorem Rch.trans {a b c : Nat} (h : Rch adj a b) (k : Rch adj b c) : Rch adj a c := by
  induction h with
  | refl => exact k
  | head h _ ih => exact .head h (ih k)
theorem Rch.snoc {a b c : Nat} (h : Rch adj a b) (k : c ∈ adj b) : Rch adj a c := h.trans (.one k)
def Mut (adj : Nat → List Nat) (a b : Nat) : Prop := Rch adj a b ∧ Rch adj b a
theorem Mut.refl (a : Nat) : Mut adj a a := ⟨.refl a, .refl a⟩
theorem Mut.symm {a b : Nat} (h : Mut adj a b) : Mut adj b a := ⟨h.2, h.1⟩
theorem Mut.trans {a b c : Nat} (h : Mut adj a b) (k : Mut adj b c) : Mut adj a c := ⟨h.1.trans k.1, k.2.trans h.2⟩

theorem getD_set {α : Type} {xs : List α} {i j : Nat} {a d : α} (hi : i < xs.length) : (xs.set i a).getD j d = if i = j then a else xs.getD j d := by
  simp only [List.getD_eq_getElem?_getD]
  by_cases e : i = j
  · subst e; simp [hi]
  · simp [e]

def Chain (adj : Nat → List Nat) : List (Nat × Nat) → Prop
  | x :: y :: r => x.1 ∈ adj y.1 ∧ Chain adj (y :: r)
  | _ => True
theorem Chain.tail {x : Nat × Nat} : ∀ {rs : List (Nat × Nat)}, Chain adj (x :: rs) → Chain adj rs
  | [], _ => trivial
  | _ :: _, h => h.2
theorem Chain.swap {p k k' : Nat} : ∀ {rs : List (Nat × Nat)}, Chain adj ((p, k) :: rs) → Chain adj ((p, k') :: rs)
  | [], _ => trivial
  | _ :: _, h => h
theorem Chain.top : ∀ {rs : List (Nat × Nat)} {x : Nat × Nat}, Chain adj (x :: rs) → ∀ y ∈ x :: rs, Rch adj y.1 x.1
  | [], x, _, y, hy => by rw [List.mem_singleton.mp hy]; exact .refl _
  | z :: r, x, h, y, hy => by
    rcases List.mem_cons.mp hy with rfl | hy
    · exact .refl _
    · exact (Chain.top h.2 y hy).snoc h.1

/-- A search down, under way. -/
structure Dfs (adj : Nat → List Nat) (n : Nat) (order : List Nat) (rs : List (Nat × Nat)) (seen : List Bool) : Prop where
  len : seen.length = n
  nd : (order ++ rs.map (·.1)).Nodup
  mem : ∀ v, v < n → (seen.getD v default = true ↔ v ∈ order ++ rs.map (·.1))
  lt : ∀ v, v ∈ order ++ rs.map (·.1) → v < n
  path : Chain adj rs
  at_ : ∀ x ∈ rs, x.2 ≤ (adj x.1).length ∧ ∀ j, j < x.2 → seen.getD ((adj x.1).getD j 0) default = true
  fin : ∀ p ∈ order, ∀ q ∈ adj p, seen.getD q default = true
  J : ∀ i, i < order.length → ∀ j, j ≤ i → ∀ q ∈ adj (order.getD j 0), q ∈ order.take (i + 1) ∨ Rch adj q (order.getD i 0)
variable {n : Nat} {order : List Nat} {rs : List (Nat × Nat)} {seen : List Bool}
theorem Dfs.start : Dfs adj n [] [] (List.replicate n false) :=
  ⟨by simp, by simp, fun v hv => by simp [List.getD_eq_getElem?_getD, List.getElem?_replicate, hv], by simp, trivial, by simp, by simp, fun i h => by simp at h⟩
theorem seen_set {v u : Nat} (hv : v < seen.length) : (seen.set v true).getD u default = true ↔ u = v ∨ seen.getD u default = true := by
  rw [getD_set hv]
  by_cases e : v = u
  · subst e; simp
  · rw [if_neg e]; constructor
    · exact .inr
    · rintro (h | h)
      · exact absurd h.symm e
      · exact h
theorem Dfs.root (h : Dfs adj n order [] seen) {v : Nat} (hv : v < n) (hs : seen.getD v default = false) : Dfs adj n order [(v, 0)] (seen.set v true) := by
  have hl := h.len
  have hno : v ∉ order := fun hm => by
    have := (h.mem v hv).mpr (by simpa using hm); rw [hs] at this; cases this
  refine ⟨by simp [hl], ?_, fun u hu => ?_, fun u hu => ?_, trivial, fun x hx => ?_, fun p hp q hq => ?_, h.J⟩
  · have := h.nd
    simp only [List.map_nil, List.append_nil] at this
    simp only [List.map_cons, List.map_nil]
    rw [List.nodup_append]
    exact ⟨this, by simp, fun a ha b hb e => hno (by rw [List.mem_singleton] at hb; rw [← hb, ← e]; exact ha)⟩
  · rw [seen_set (by omega), h.mem u hu]; simp [or_comm]
  · simp only [List.map_cons, List.map_nil, List.mem_append, List.mem_singleton] at hu
    rcases hu with hu | rfl
    · exact h.lt u (by simpa using hu)
    · exact hv
  · rw [List.mem_singleton.mp hx]; exact ⟨Nat.zero_le _, fun j hj => absurd hj (by simp)⟩
  · rw [seen_set (by omega)]; exact .inr (h.fin p hp q hq)
theorem Dfs.pop {p k : Nat} (h : Dfs adj n order ((p, k) :: rs) seen) (hk : k = (adj p).length) (hadj : ∀ a, a < n → ∀ b ∈ adj a, b < n) : Dfs adj n (order ++ [p]) rs seen := by
  have hp : p < n := h.lt p (by simp)
  have hall : ∀ q ∈ adj p, seen.getD q default = true := fun q hq => by
    obtain ⟨j, hj, rfl⟩ := List.getElem_of_mem hq
    have := (h.at_ (p, k) List.mem_cons_self).2 j (by omega)
    simpa [List.getD_eq_getElem?_getD, hj] using this
  refine ⟨h.len, by simpa using h.nd, fun v hv => by rw [h.mem v hv]; simp, fun v hv => h.lt v (by simpa using hv), h.path.tail, fun x hx => h.at_ x (List.mem_cons_of_mem _ hx), fun q hq => ?_, fun i hi j hj q hq => ?_⟩
  · rcases List.mem_append.mp hq with hq | hq
    · exact h.fin q hq
    · rw [List.mem_singleton.mp hq]; exact hall
  · have hi' : i < order.length + 1 := by simpa using hi
    by_cases e : i < order.length
    · have h1 := h.J i e j hj
      have e1 : (order ++ [p]).getD j 0 = order.getD j 0 := by simp [List.getD_eq_getElem?_getD, List.getElem?_append_left (show j < order.length by omega)]
      have e2 : (order ++ [p]).getD i 0 = order.getD i 0 := by simp [List.getD_eq_getElem?_getD, List.getElem?_append_left e]
      rw [e1] at hq
      rw [e2, List.take_append_of_le_length (by omega)]
      exact h1 q hq
    · obtain rfl : i = order.length := by omega
      have e2 : (order ++ [p]).getD order.length 0 = p := by simp [List.getD_eq_getElem?_getD]
      have e3 : (order ++ [p]).take (order.length + 1) = order ++ [p] := List.take_of_length_le (by simp)
      rw [e2, e3]
      have hsq : seen.getD q default = true ∧ q < n := by
        by_cases ej : j < order.length
        · have e1 : (order ++ [p]).getD j 0 = order.getD j 0 := by simp [List.getD_eq_getElem?_getD, List.getElem?_append_left ej]
          rw [e1] at hq
          have hm : order.getD j 0 ∈ order := by simp [List.getD_eq_getElem?_getD, ej]
          exact ⟨h.fin _ hm q hq, hadj _ (h.lt _ (List.mem_append_left _ hm)) q hq⟩
        · obtain rfl : j = order.length := by omega
          rw [e2] at hq
          exact ⟨hall q hq, hadj p hp q hq⟩
      have hm := (h.mem q hsq.2).mp hsq.1
      simp only [List.map_cons, List.mem_append, List.mem_cons] at hm
      rcases hm with hm | rfl | hm
      · exact .inl (List.mem_append_left _ hm)
      · exact .inr (.refl _)
      · obtain ⟨x, hx, rfl⟩ := List.mem_map.mp hm
        exact .inr (h.path.top x (List.mem_cons_of_mem _ hx))
theorem Dfs.next {p k : Nat} (h : Dfs adj n order ((p, k) :: rs) seen) (hk : k < (adj p).length) (hs : seen.getD ((adj p).getD k 0) default = true) : Dfs adj n order ((p, k + 1) :: rs) seen := by
  refine ⟨h.len, h.nd, h.mem, h.lt, h.path.swap, fun x hx => ?_, h.fin, h.J⟩
  rcases List.mem_cons.mp hx with rfl | hx
  · refine ⟨hk, fun j hj => ?_⟩
    by_cases e : j = k
    · subst e; exact hs
    · exact (h.at_ (p, k) List.mem_cons_self).2 j (by simp at hj; omega)
  · exact h.at_ x (List.mem_cons_of_mem _ hx)
theorem Dfs.push {p k to : Nat} (h : Dfs adj n order ((p, k) :: rs) seen) (hk : k < (adj p).length) (ht : (adj p).getD k 0 = to) (hto : to < n) (hs : seen.getD to default = false) : Dfs adj n order ((to, 0) :: (p, k + 1) :: rs) (seen.set to true) := by
  have hl := h.len
  have hno : to ∉ order ++ ((p, k) :: rs).map (·.1) := fun hm => by
    have := (h.mem to hto).mpr hm; rw [hs] at this; cases this
  refine ⟨by simp [hl], ?_, fun u hu => ?_, fun u hu => ?_, ⟨?_, h.path.swap⟩, fun x hx => ?_, fun p' hp' q hq => ?_, h.J⟩
  · have := h.nd
    rw [List.nodup_append] at this ⊢
    simp only [List.map_cons, List.mem_append, List.mem_cons, not_or] at hno
    refine ⟨this.1, List.nodup_cons.mpr ⟨by simpa using ⟨hno.2.1, fun x y => by have := hno.2.2; simp at this; exact this x y⟩, this.2.1⟩, fun a ha b hb e => ?_⟩
    rcases List.mem_cons.mp hb with rfl | hb
    · exact hno.1 (e ▸ ha)
    · exact this.2.2 a ha b hb e
  · rw [seen_set (by omega), h.mem u hu]
    simp only [List.map_cons, List.mem_append, List.mem_cons]
    constructor
    · rintro (h | h | h | h)
      · exact .inr (.inl h)
      · exact .inl h
      · exact .inr (.inr (.inl h))
      · exact .inr (.inr (.inr h))
    · rintro (h | h | h | h)
      · exact .inr (.inl h)
      · exact .inl h
      · exact .inr (.inr (.inl h))
      · exact .inr (.inr (.inr h))
  · simp only [List.map_cons, List.mem_append, List.mem_cons] at hu
    rcases hu with hu | rfl | hu
    · exact h.lt u (by simp [hu])
    · exact hto
    · exact h.lt u (List.mem_append_right _ (List.mem_cons.mpr hu))
  · show to ∈ adj p
    rw [← ht]; simp [List.getD_eq_getElem?_getD, hk]
  · rcases List.mem_cons.mp hx with rfl | hx
    · exact ⟨Nat.zero_le _, fun j hj => absurd hj (by simp)⟩
    · rcases List.mem_cons.mp hx with rfl | hx
      · refine ⟨hk, fun j hj => ?_⟩
        rw [seen_set (by omega)]
        by_cases e : j = k
        · subst e; exact .inl ht
        · exact .inr ((h.at_ (p, k) List.mem_cons_self).2 j (by simp at hj; omega))
      · obtain ⟨g1, g2⟩ := h.at_ x (List.mem_cons_of_mem _ hx)
        exact ⟨g1, fun j hj => by rw [seen_set (by omega)]; exact .inr (g2 j hj)⟩
  · rw [seen_set (by omega)]; exact .inr (h.fin p' hp' q hq)

/-- What the order of a search down tells in the end. -/
structure Fins (adj : Nat → List Nat) (n : Nat) (order : List Nat) : Prop where
  nd : order.Nodup
  all : ∀ v, v < n → v ∈ order
  lt : ∀ v ∈ order, v < n
  J : ∀ i, i < order.length → ∀ j, j ≤ i → ∀ q ∈ adj (order.getD j 0), q ∈ order.take (i + 1) ∨ Rch adj q (order.getD i 0)
theorem Dfs.fins (h : Dfs adj n order [] seen) (hall : ∀ v, v < n → seen.getD v default = true) : Fins adj n order :=
  ⟨by simpa using h.nd, fun v hv => by simpa using (h.mem v hv).mp (hall v hv), fun v hv => h.lt v (by simpa using hv), h.J⟩
theorem Fins.key (h : Fins adj n order) (hadj : ∀ a, a < n → ∀ b ∈ adj a, b < n) {i : Nat} (hi : i < order.length) (hmax : ∀ j, i < j → j < order.length → ¬ Mut adj (order.getD i 0) (order.getD j 0)) {q : Nat} (hq : Rch adj (order.getD i 0) q) : q ∈ order.take (i + 1) := by
  have key : ∀ r q, Rch adj r q → r ∈ order.take (i + 1) → Rch adj (order.getD i 0) r → q ∈ order.take (i + 1) := by
    intro r q hrq
    induction hrq with
    | refl => exact fun h _ => h
    | @head a b c hab hbc ih =>
      intro hr hpr
      obtain ⟨j, hj, rfl⟩ := List.getElem_of_mem hr
      have hj2 : j < i + 1 ∧ j < order.length := by simpa [Nat.lt_min] using hj
      have hr' : (order.take (i + 1))[j] = order.getD j 0 := by simp [List.getD_eq_getElem?_getD, hj2.2]
      rw [hr'] at hab hpr
      have hb : b ∈ order.take (i + 1) := by
        rcases h.J i hi j (by omega) b hab with g | g
        · exact g
        · have hbn : b < n := hadj _ (h.lt _ (by simp [List.getD_eq_getElem?_getD, hj2.2])) b hab
          obtain ⟨m, hm, hbm⟩ := List.getElem_of_mem (h.all b hbn)
          by_cases hmi : m ≤ i
          · rw [← hbm]
            exact List.mem_of_getElem? (i := m) (by rw [List.getElem?_take_of_lt (by omega)]; exact List.getElem?_eq_getElem hm)
          · exfalso
            refine hmax m (by omega) hm ⟨?_, ?_⟩
            · have : order.getD m 0 = b := by simp [List.getD_eq_getElem?_getD, hm, hbm]
              rw [this]; exact hpr.snoc hab
            · have : order.getD m 0 = b := by simp [List.getD_eq_getElem?_getD, hm, hbm]
              rw [this]; exact g
      exact ih hb (hpr.snoc hab)
  refine key _ q hq ?_ (.refl _)
  exact List.mem_of_getElem? (i := i) (by rw [List.getElem?_take_of_lt (by omega), List.getElem?_eq_getElem hi]; simp [List.getD_eq_getElem?_getD, hi])
/-- The same, the order turned round. -/
theorem Fins.rkey (h : Fins adj n order) (hadj : ∀ a, a < n → ∀ b ∈ adj a, b < n) {k : Nat} (hk : k < order.length) (hmax : ∀ j, j < k → ¬ Mut adj (order.reverse.getD k 0) (order.reverse.getD j 0)) {j : Nat} (hj : j < k) : ¬ Rch adj (order.reverse.getD k 0) (order.reverse.getD j 0) := by
  have e : ∀ j, j < order.length → order.reverse.getD j 0 = order.getD (order.length - 1 - j) 0 := fun j hj => by
    simp [List.getD_eq_getElem?_getD, List.getElem?_reverse hj]
  intro hr
  rw [e k hk, e j (by omega)] at hr
  have h1 := h.key hadj (i := order.length - 1 - k) (by omega) (fun m hm1 hm2 hM => by
    have := hmax (order.length - 1 - m) (by omega)
    rw [e k hk, e _ (by omega), show order.length - 1 - (order.length - 1 - m) = m by omega] at this
    exact this hM) hr
  obtain ⟨m, hm, hme⟩ := List.getElem_of_mem h1
  have hm2 : m < order.length - 1 - k + 1 ∧ m < order.length := by simpa [Nat.lt_min] using hm
  rw [List.getElem_take] at hme
  have h3 : order.getD (order.length - 1 - j) 0 = order[order.length - 1 - j]'(by omega) := by simp [List.getD_eq_getElem?_getD, show order.length - 1 - j < order.length by omega]
  rw [h3] at hme
  have := (List.getElem_inj h.nd).mp hme
  omega

/-- Points are marked, each once. -/
def pour (d : Int) : List Nat → List Int × List Nat → List Int × List Nat
  | [], s => s
  | u :: l, s => pour d l (if s.1.getD u default < 0 then (s.1.set u d, s.2 ++ [u]) else s)
theorem pour_len {d : Int} : ∀ (l : List Nat) (s : List Int × List Nat), (pour d l s).1.length = s.1.length
  | [], s => rfl
  | u :: l, s => by
    unfold pour
    rw [pour_len l]
    split <;> simp
theorem pour_keep {d : Int} : ∀ (l : List Nat) (s : List Int × List Nat) (v : Nat), (∀ u ∈ l, u < s.1.length) → 0 ≤ s.1.getD v default → (pour d l s).1.getD v default = s.1.getD v default
  | [], s, v, _, _ => rfl
  | u :: l, s, v, hl, hv => by
    unfold pour
    split
    · rename_i hu
      have hlt := hl u List.mem_cons_self
      have e : (s.1.set u d).getD v default = s.1.getD v default := by
        rw [getD_set hlt, if_neg]; intro e; subst e; omega
      rw [pour_keep l _ v (fun x hx => by simpa using hl x (List.mem_cons_of_mem _ hx)) (by rw [e]; exact hv), e]
    · exact pour_keep l s v (fun x hx => hl x (List.mem_cons_of_mem _ hx)) hv
/-- Whatever holds and is kept by each marking holds behind all; all of the list are marked. -/
theorem pour_ind {d : Int} (hd : 0 ≤ d) (I : List Int × List Nat → Prop) : ∀ (l : List Nat) (s : List Int × List Nat), (∀ u ∈ l, u < s.1.length) → (∀ out q u, out.length = s.1.length → u ∈ l → out.getD u default < 0 → I (out, q) → I (out.set u d, q ++ [u])) → I s → I (pour d l s) ∧ ∀ u ∈ l, 0 ≤ (pour d l s).1.getD u default
  | [], s, _, _, h => ⟨h, by simp⟩
  | u :: l, s, hl, hk, h => by
    have hlt := hl u List.mem_cons_self
    unfold pour
    split
    · rename_i hu
      have h1 := pour_ind hd I l (s.1.set u d, s.2 ++ [u]) (fun x hx => by simpa using hl x (List.mem_cons_of_mem _ hx)) (fun out q x ho hx => hk out q x (by simpa using ho) (List.mem_cons_of_mem _ hx)) (hk s.1 s.2 u rfl List.mem_cons_self hu h)
      refine ⟨h1.1, fun x hx => ?_⟩
      rcases List.mem_cons.mp hx with rfl | hx
      · rw [pour_keep l _ x (fun y hy => by simpa using hl y (List.mem_cons_of_mem _ hy)) (by rw [getD_set hlt, if_pos rfl]; exact hd), getD_set hlt, if_pos rfl]; exact hd
      · exact h1.2 x hx
    · rename_i hu
      have h1 := pour_ind hd I l s (fun x hx => hl x (List.mem_cons_of_mem _ hx)) (fun out q x ho hx => hk out q x ho (List.mem_cons_of_mem _ hx)) h
      refine ⟨h1.1, fun x hx => ?_⟩
      rcases List.mem_cons.mp hx with rfl | hx
      · rw [pour_keep l s x (fun y hy => hl y (List.mem_cons_of_mem _ hy)) (by omega)]; omega
      · exact h1.2 x hx

/-- The points of a ring are marked, under way. -/
structure Flood (adj radj : Nat → List Nat) (n root : Nat) (ring : Int) (out0 : List Int) (ex : Nat → Prop) (s : List Int × List Nat) : Prop where
  len : s.1.length = n
  old : ∀ v, v < n → 0 ≤ out0.getD v default → s.1.getD v default = out0.getD v default
  new : ∀ v, v < n → out0.getD v default < 0 → s.1.getD v default < 0 ∨ (s.1.getD v default = ring ∧ Rch adj v root)
  stk : ∀ v ∈ s.2, v < n ∧ out0.getD v default < 0 ∧ s.1.getD v default = ring
  closed : ∀ v, v < n → out0.getD v default < 0 → s.1.getD v default = ring → ex v ∨ v ∈ s.2 ∨ ∀ u ∈ radj v, 0 ≤ s.1.getD u default
  rt : s.1.getD root default = ring
variable {radj : Nat → List Nat} {root : Nat} {ring : Int} {out0 : List Int}
theorem Flood.start (hr : root < n) (hl : out0.length = n) (h0 : out0.getD root default < 0) (hring : 0 ≤ ring) : Flood adj radj n root ring out0 (fun _ => False) (out0.set root ring, [root]) := by
  refine ⟨by simpa using hl, fun v hv h => ?_, fun v hv h => ?_, fun v hv => ?_, fun v hv h h' => ?_, ?_⟩
  · dsimp only; rw [getD_set (by omega), if_neg]; intro e; subst e; omega
  · dsimp only; rw [getD_set (by omega)]
    by_cases e : root = v
    · subst e; rw [if_pos rfl]; exact .inr ⟨rfl, .refl _⟩
    · rw [if_neg e]; exact .inl h
  · rw [List.mem_singleton.mp hv]; exact ⟨hr, h0, by dsimp only; rw [getD_set (by omega), if_pos rfl]⟩
  · right; left
    dsimp only at h' ⊢
    rw [getD_set (by omega)] at h'
    by_cases e : root = v
    · subst e; simp
    · rw [if_neg e] at h'; omega
  · dsimp only; rw [getD_set (by omega), if_pos rfl]
/-- One is taken from the pile, and those ahead of it are marked. -/
theorem Flood.step {out : List Int} {q : List Nat} {p : Nat} (h : Flood adj radj n root ring out0 (fun _ => False) (out, q ++ [p])) (hring : 0 ≤ ring) (hrad : ∀ p, p < n → ∀ u ∈ radj p, u < n ∧ p ∈ adj u) : Flood adj radj n root ring out0 (fun _ => False) (pour ring (radj p) (out, q)) := by
  obtain ⟨hp, hp0, hpr⟩ := h.stk p (by simp)
  have hpR : Rch adj p root := by
    rcases h.new p hp hp0 with g | g
    · rw [hpr] at g; omega
    · exact g.2
  have hlen := h.len
  dsimp only at hlen
  have h1 := pour_ind hring (Flood adj radj n root ring out0 (fun v => v = p)) (radj p) (out, q) (fun u hu => by dsimp only; rw [hlen]; exact (hrad p hp u hu).1) (fun o s u ho hu hneg hI => ?_) ?_
  · obtain ⟨hF, hall⟩ := h1
    refine ⟨hF.len, hF.old, hF.new, hF.stk, fun v hv h0 hv' => ?_, hF.rt⟩
    rcases hF.closed v hv h0 hv' with rfl | g | g
    · exact .inr (.inr hall)
    · exact .inr (.inl g)
    · exact .inr (.inr g)
  · have hun := hrad p hp u hu
    have hlo : o.length = n := hI.len
    have hu0 : out0.getD u default < 0 := by
      refine Classical.byContradiction fun g => ?_
      have := hI.old u hun.1 (by omega)
      dsimp only at this; omega
    refine ⟨by simpa using hlo, fun v hv g => ?_, fun v hv g => ?_, fun v hv => ?_, fun v hv g g' => ?_, ?_⟩
    · dsimp only; rw [getD_set (by omega), if_neg (fun e => by subst e; omega)]; exact hI.old v hv g
    · dsimp only; rw [getD_set (by omega)]
      by_cases e : u = v
      · subst e; rw [if_pos rfl]; exact .inr ⟨rfl, .head hun.2 hpR⟩
      · rw [if_neg e]; exact hI.new v hv g
    · dsimp only at hv ⊢
      rcases List.mem_append.mp hv with hv | hv
      · obtain ⟨a1, a2, a3⟩ := hI.stk v hv
        dsimp only at a3
        refine ⟨a1, a2, ?_⟩
        rw [getD_set (by omega)]
        by_cases e : u = v
        · rw [if_pos e]
        · rw [if_neg e]; exact a3
      · rw [List.mem_singleton.mp hv]; exact ⟨hun.1, hu0, by rw [getD_set (by omega), if_pos rfl]⟩
    · dsimp only at g' ⊢
      by_cases e : u = v
      · subst e; exact .inr (.inl (by simp))
      · rw [getD_set (by omega), if_neg e] at g'
        rcases hI.closed v hv g g' with k | k | k
        · exact .inl k
        · exact .inr (.inl (List.mem_append_left _ k))
        · refine .inr (.inr fun x hx => ?_)
          rw [getD_set (by omega)]
          split
          · exact hring
          · exact k x hx
    · dsimp only; rw [getD_set (by omega)]
      split
      · rfl
      · exact hI.rt
  · refine ⟨h.len, h.old, h.new, fun v hv => h.stk v (List.mem_append_left _ hv), fun v hv g g' => ?_, h.rt⟩
    rcases h.closed v hv g g' with k | k | k
    · exact k.elim
    · rcases List.mem_append.mp k with k | k
      · exact .inr (.inl k)
      · exact .inl (List.mem_singleton.mp k)
    · exact .inr (.inr k)

/-- Rings told so far. -/
structure Rings (adj : Nat → List Nat) (n : Nat) (rev : List Nat) (k : Nat) (out : List Int) : Prop where
  len : out.length = n
  lt : ∀ v, v < n → out.getD v default < k
  dom : ∀ v, v < n → (0 ≤ out.getD v default ↔ ∃ j, j < k ∧ Mut adj v (rev.getD j 0))
  eq : ∀ u v, u < n → v < n → 0 ≤ out.getD u default → 0 ≤ out.getD v default → (out.getD u default = out.getD v default ↔ Mut adj u v)
variable {rev : List Nat} {out : List Int} {k : Nat}
theorem Rings.start : Rings adj n rev 0 (List.replicate n (-1)) := by
  have e : ∀ v, v < n → (List.replicate n (-1 : Int)).getD v default = -1 := fun v hv => by simp [List.getD_eq_getElem?_getD, List.getElem?_replicate, hv]
  refine ⟨by simp, fun v hv => by rw [e v hv]; decide, fun v hv => ?_, fun u v hu hv h _ => ?_⟩
  · rw [e v hv]; constructor
    · intro h; exact absurd h (by decide)
    · rintro ⟨j, hj, _⟩; omega
  · rw [e u hu] at h; exact absurd h (by decide)
theorem Rings.skip (h : Rings adj n rev k out) (hr : rev.getD k 0 < n) (h0 : 0 ≤ out.getD (rev.getD k 0) default) : Rings adj n rev (k + 1) out := by
  refine ⟨h.len, fun v hv => by have := h.lt v hv; omega, fun v hv => ?_, h.eq⟩
  rw [h.dom v hv]
  constructor
  · rintro ⟨j, hj, g⟩; exact ⟨j, by omega, g⟩
  · rintro ⟨j, hj, g⟩
    by_cases e : j < k
    · exact ⟨j, e, g⟩
    · obtain rfl : j = k := by omega
      obtain ⟨i, hi, g'⟩ := (h.dom _ hr).mp h0
      exact ⟨i, hi, g.trans g'⟩
theorem Rings.flood (h : Rings adj n order.reverse k out0) (hF : Fins adj n order) (hadj : ∀ a, a < n → ∀ b ∈ adj a, b < n) (hrad : ∀ p u, p < n → u < n → p ∈ adj u → u ∈ radj p) (hk : k < order.length) (h0 : out0.getD (order.reverse.getD k 0) default < 0)
    (hfl : Flood adj radj n (order.reverse.getD k 0) (k : Int) out0 (fun _ => False) (out, [])) : Rings adj n order.reverse (k + 1) out := by
  have hlen2 : order.reverse.length = order.length := by simp
  have hrn : ∀ j, j < order.length → order.reverse.getD j 0 < n := fun j hj => hF.lt _ (by
    have : order.reverse.getD j 0 ∈ order.reverse := by simp [List.getD_eq_getElem?_getD, hj]
    simpa using this)
  have hmax : ∀ j, j < k → ¬ Mut adj (order.reverse.getD k 0) (order.reverse.getD j 0) := fun j hj g => by
    have := (h.dom _ (hrn k hk)).mpr ⟨j, hj, g⟩; omega
  -- what is marked anew is just the ring
  have hiff : ∀ v, v < n → out0.getD v default < 0 → (out.getD v default = k ↔ Mut adj v (order.reverse.getD k 0)) := by
    intro v hv hv0
    constructor
    · intro hvk
      have hR : Rch adj v (order.reverse.getD k 0) := by
        rcases hfl.new v hv hv0 with g | g
        · dsimp only at g; omega
        · exact g.2
      refine Classical.byContradiction fun hno => ?_
      -- the first of v's ring in the order
      have hex : ∃ m, m < order.length ∧ Mut adj v (order.reverse.getD m 0) ∧ ∀ j, j < m → ¬ Mut adj v (order.reverse.getD j 0) := by
        have h1 : ∃ m, m < order.length ∧ Mut adj v (order.reverse.getD m 0) := by
          obtain ⟨m, hm, e⟩ := List.getElem_of_mem (List.mem_reverse.mpr (hF.all v hv))
          exact ⟨m, by simpa using hm, by have : order.reverse.getD m 0 = v := by { rw [List.getD_eq_getElem?_getD, List.getElem?_eq_getElem hm, e]; rfl }
                                          rw [this]; exact .refl v⟩
        obtain ⟨m, hm, hM⟩ := h1
        clear hno
        induction m using Nat.strongRecOn with
        | _ m ih =>
          by_cases hlow : ∃ j, j < m ∧ Mut adj v (order.reverse.getD j 0)
          · obtain ⟨j, hj, g⟩ := hlow
            exact ih j hj (by omega) g
          · exact ⟨m, hm, hM, fun j hj g => hlow ⟨j, hj, g⟩⟩
      obtain ⟨m, hm, hM, hleast⟩ := hex
      have hkm : k < m := by
        rcases Nat.lt_trichotomy m k with g | g | g
        · have := (h.dom v hv).mpr ⟨m, g, hM⟩; omega
        · subst g; exact absurd hM hno
        · exact g
      refine hF.rkey hadj (k := m) hm (fun j hj g => hleast j hj (hM.trans g)) hkm ?_
      exact hM.2.trans hR
    · intro hM
      have key : ∀ a b, Rch adj a b → b = order.reverse.getD k 0 → Rch adj (order.reverse.getD k 0) a → a < n → out.getD a default = k := by
        intro a b hab
        induction hab with
        | refl a => intro e _ _; rw [e]; exact hfl.rt
        | @head a b c hab hbc ih =>
          intro e hra ha
          have hb : b < n := hadj a ha b hab
          have hbk := ih e (hra.snoc hab) hb
          have hun : ∀ x, x < n → Mut adj x (order.reverse.getD k 0) → out0.getD x default < 0 := fun x hx g => by
            refine Classical.byContradiction fun g' => ?_
            obtain ⟨j, hj, gj⟩ := (h.dom x hx).mp (by omega)
            exact hmax j hj (g.symm.trans gj)
          have hb0 := hun b hb ⟨by rw [← e]; exact hbc, hra.snoc hab⟩
          have ha0 := hun a ha ⟨by rw [← e]; exact .head hab hbc, hra⟩
          rcases hfl.closed b hb hb0 hbk with g | g | g
          · exact g.elim
          · simp at g
          · have g1 := g a (hrad b a hb ha hab)
            rcases hfl.new a ha ha0 with g2 | g2
            · dsimp only at g1 g2; omega
            · exact g2.1
      exact key v _ hM.1 rfl hM.2 hv
  have hval : ∀ v, v < n → out.getD v default < 0 ∨ (out0.getD v default < 0 ∧ out.getD v default = k) ∨ (0 ≤ out0.getD v default ∧ out.getD v default = out0.getD v default) := fun v hv => by
    by_cases g : 0 ≤ out0.getD v default
    · exact .inr (.inr ⟨g, hfl.old v hv g⟩)
    · rcases hfl.new v hv (by omega) with g1 | g1
      · exact .inl g1
      · exact .inr (.inl ⟨by omega, g1.1⟩)
  refine ⟨hfl.len, fun v hv => ?_, fun v hv => ?_, fun u v hu hv gu gv => ?_⟩
  · rcases hval v hv with g | g | g
    · omega
    · omega
    · have := h.lt v hv; omega
  · constructor
    · intro g
      rcases hval v hv with g1 | g1 | g1
      · omega
      · exact ⟨k, by omega, (hiff v hv g1.1).mp g1.2⟩
      · obtain ⟨j, hj, gj⟩ := (h.dom v hv).mp g1.1
        exact ⟨j, by omega, gj⟩
    · rintro ⟨j, hj, gj⟩
      by_cases g : 0 ≤ out0.getD v default
      · have := hfl.old v hv g; dsimp only at this; omega
      · by_cases e : j < k
        · exact absurd ((h.dom v hv).mpr ⟨j, e, gj⟩) g
        · obtain rfl : j = k := by omega
          have := (hiff v hv (by omega)).mpr gj
          omega
  · rcases hval u hu with g1 | g1 | g1
    · omega
    · rcases hval v hv with g2 | g2 | g2
      · omega
      · constructor
        · intro _; exact ((hiff u hu g1.1).mp g1.2).trans ((hiff v hv g2.1).mp g2.2).symm
        · intro _; omega
      · have := h.lt v hv
        constructor
        · intro e; omega
        · intro g
          have := (hiff u hu g1.1).mp g1.2
          obtain ⟨j, hj, gj⟩ := (h.dom v hv).mp g2.1
          exact absurd (this.symm.trans (g.trans gj)) (hmax j hj)
    · rcases hval v hv with g2 | g2 | g2
      · omega
      · have := h.lt u hu
        constructor
        · intro e; omega
        · intro g
          have := (hiff v hv g2.1).mp g2.2
          obtain ⟨j, hj, gj⟩ := (h.dom u hu).mp g1.1
          exact absurd (this.symm.trans (g.symm.trans gj)) (hmax j hj)
      · rw [g1.2, g2.2]; exact h.eq u v hu hv g1.1 g2.1
end
end Go.Proofs.Ythdclobnmicdaaa
end

/- How far points are: a search in breadth tells the least numbers of steps. -/
section
namespace Go.Proofs.Ythdclobnmicdaaa
open Go Go.RowKit E
set_option linter.unusedVariables false

/-- d steps lead from a to b. -/
inductive Walk (adj : Nat → List Nat) (a : Nat) : Nat → Nat → Prop where
  | zero : Walk adj a a 0
  | snoc {b c d : Nat} (h : Walk adj a b d) (k : c ∈ adj b) : Walk adj a c (d + 1)
section
variable {adj : Nat → List Nat}
theorem Walk.rch {a b d : Nat} (h : Walk adj a b d) : Rch adj a b := by
  induction h with
  | zero => exact .refl a
  | snoc _ k ih => exact ih.snoc k
theorem Walk.cons {a b c d : Nat} (h : b ∈ adj a) (k : Walk adj b c d) : Walk adj a c (d + 1) := by
  induction k with
  | zero => exact .snoc .zero h
  | snoc _ g ih => exact .snoc ih g
theorem Rch.walk {a b : Nat} (h : Rch adj a b) : ∃ d, Walk adj a b d := by
  induction h with
  | refl a => exact ⟨0, .zero⟩
  | head h _ ih => obtain ⟨d, g⟩ := ih; exact ⟨d + 1, .cons h g⟩

/-- For each point how far it is from the nearest of some; -1: steps do not lead there. -/
structure IsFar (adj : Nat → List Nat) (n : Nat) (src : List Nat) (out : List Int) : Prop where
  len : out.length = n
  val : ∀ v, v < n → (out.getD v default = -1 ∧ ∀ s ∈ src, ¬ Rch adj s v) ∨ ∃ d : Nat, out.getD v default = d ∧ (∃ s, s ∈ src ∧ Walk adj s v d) ∧ ∀ s ∈ src, ∀ m, Walk adj s v m → d ≤ m
theorem IsFar.unique {n : Nat} {src src' : List Nat} {adj' : Nat → List Nat} {out out' : List Int} (h : IsFar adj n src out) (h' : IsFar adj' n src' out') (hs : ∀ s, s ∈ src ↔ s ∈ src') (hw : ∀ s ∈ src, ∀ v d, Walk adj s v d ↔ Walk adj' s v d) : out = out' := by
  have e : ∀ v, v < n → out.getD v default = out'.getD v default := by
    intro v hv
    rcases h.val v hv with ⟨g1, g2⟩ | ⟨d, g1, ⟨s, g2, g3⟩, g4⟩
    · rcases h'.val v hv with ⟨k1, k2⟩ | ⟨d, k1, ⟨s, k2, k3⟩, k4⟩
      · omega
      · exact absurd ((hw s ((hs s).mpr k2) v d).mpr k3).rch (g2 s ((hs s).mpr k2))
    · rcases h'.val v hv with ⟨k1, k2⟩ | ⟨d', k1, ⟨s', k2, k3⟩, k4⟩
      · exact absurd ((hw s g2 v d).mp g3).rch (k2 s ((hs s).mp g2))
      · have a1 := g4 s' ((hs s').mpr k2) d' ((hw s' ((hs s').mpr k2) v d').mpr k3)
        have a2 := k4 s ((hs s).mp g2) d ((hw s g2 v d).mp g3)
        omega
  refine List.ext_getElem (by rw [h.len, h'.len]) fun i h1 h2 => ?_
  have := e i (by rw [← h.len]; exact h1)
  simpa [List.getD_eq_getElem?_getD, h1, h2] using this

/-- The search, under way: the points up to i were looked at. -/
structure Bfs (adj : Nat → List Nat) (n : Nat) (src : List Nat) (i : Nat) (s : List Int × List Nat) : Prop where
  len : s.1.length = n
  nd : s.2.Nodup
  mem : ∀ v, v < n → (0 ≤ s.1.getD v default ↔ v ∈ s.2)
  lt : ∀ v ∈ s.2, v < n
  neg : ∀ v, v < n → s.1.getD v default < 0 → s.1.getD v default = -1
  walk : ∀ v ∈ s.2, ∃ a, a ∈ src ∧ Walk adj a v (s.1.getD v default).toNat
  src0 : ∀ a ∈ src, s.1.getD a default = 0
  mono : ∀ j k, j ≤ k → k < s.2.length → s.1.getD (s.2.getD j 0) default ≤ s.1.getD (s.2.getD k 0) default
  top : i < s.2.length → ∀ k, k < s.2.length → s.1.getD (s.2.getD k 0) default ≤ s.1.getD (s.2.getD i 0) default + 1
  small : ∀ j, j < s.2.length → s.1.getD (s.2.getD j 0) default ≤ j
  done : ∀ j, j < i → j < s.2.length → ∀ u ∈ adj (s.2.getD j 0), 0 ≤ s.1.getD u default ∧ s.1.getD u default ≤ s.1.getD (s.2.getD j 0) default + 1
variable {n : Nat} {src : List Nat}
theorem getD_snoc {xs : List Nat} {a j : Nat} : (xs ++ [a]).getD j 0 = if j < xs.length then xs.getD j 0 else if j = xs.length then a else 0 := by
  simp only [List.getD_eq_getElem?_getD]
  split
  · rename_i h; rw [List.getElem?_append_left h]
  · rename_i h
    rw [List.getElem?_append_right (by omega)]
    split
    · rename_i e; subst e; simp
    · have : j - xs.length ≠ 0 := by omega
      cases hq : j - xs.length with
      | zero => exact absurd hq this
      | succ m => simp
theorem getD_mem {xs : List Nat} {j : Nat} (h : j < xs.length) : xs.getD j 0 ∈ xs := by simp [List.getD_eq_getElem?_getD, h]
/-- The beginning. -/
theorem Bfs.start (hsrc : ∀ a ∈ src, a < n) : Bfs adj n src 0 (pour 0 src (List.replicate n (-1), [])) := by
  have e0 : ∀ v, v < n → (List.replicate n (-1 : Int)).getD v default = -1 := fun v hv => by simp [List.getD_eq_getElem?_getD, List.getElem?_replicate, hv]
  have key := pour_ind (d := 0) (by decide) (fun s : List Int × List Nat => s.1.length = n ∧ s.2.Nodup ∧ (∀ v, v < n → (0 ≤ s.1.getD v default ↔ v ∈ s.2)) ∧ (∀ v ∈ s.2, v < n ∧ v ∈ src) ∧ (∀ v, v < n → s.1.getD v default = -1 ∨ s.1.getD v default = 0)) src (List.replicate n (-1), []) (fun u hu => by simpa using hsrc u hu)
    (fun out q u ho hu hneg ⟨h1, h2, h3, h4, h5⟩ => ?_) ⟨by simp, by simp, fun v hv => by dsimp only; rw [e0 v hv]; simp, by simp, fun v hv => .inl (e0 v hv)⟩
  · obtain ⟨⟨h1, h2, h3, h4, h5⟩, hall⟩ := key
    have z : ∀ v ∈ (pour 0 src (List.replicate n (-1), [])).2, (pour 0 src (List.replicate n (-1), [])).1.getD v default = 0 := fun v hv => by
      have a := (h3 v (h4 v hv).1).mpr hv
      rcases h5 v (h4 v hv).1 with g | g <;> omega
    refine ⟨h1, h2, h3, fun v hv => (h4 v hv).1, fun v hv g => ?_, fun v hv => ⟨v, (h4 v hv).2, ?_⟩, fun a ha => ?_, fun j k hj hk => ?_, fun hi k hk => ?_, fun j hj => ?_, fun j hj => absurd hj (by omega)⟩
    · rcases h5 v hv with g1 | g1 <;> omega
    · rw [z v hv]; exact .zero
    · exact z a ((h3 a (hsrc a ha)).mp (hall a ha))
    · rw [z _ (getD_mem (by omega)), z _ (getD_mem hk)]; omega
    · rw [z _ (getD_mem hk), z _ (getD_mem hi)]; omega
    · rw [z _ (getD_mem hj)]; omega
  · dsimp only at h1 h2 h3 h4 h5 ⊢
    have hun := hsrc u hu
    have hnq : u ∉ q := fun g => by have := (h3 u hun).mpr g; omega
    refine ⟨by simpa using h1, ?_, fun v hv => ?_, fun v hv => ?_, fun v hv => ?_⟩
    · rw [List.nodup_append]; exact ⟨h2, by simp, fun a ha b hb e => hnq (by rw [List.mem_singleton] at hb; rw [← hb, ← e]; exact ha)⟩
    · rw [getD_set (by omega), List.mem_append, List.mem_singleton]
      by_cases e : u = v
      · subst e; simp
      · rw [if_neg e, h3 v hv]; constructor
        · exact .inl
        · rintro (g | g)
          · exact g
          · exact absurd g.symm e
    · rcases List.mem_append.mp hv with g | g
      · exact h4 v g
      · rw [List.mem_singleton.mp g]; exact ⟨hun, hu⟩
    · rw [getD_set (by omega)]
      split
      · exact .inr rfl
      · exact h5 v hv
/-- One point is looked at. -/
theorem Bfs.step {out : List Int} {q : List Nat} {i : Nat} (h : Bfs adj n src i (out, q)) (hi : i < q.length) (hadj : ∀ a, a < n → ∀ b ∈ adj a, b < n) :
    Bfs adj n src (i + 1) (pour (out.getD (q.getD i 0) default + 1) (adj (q.getD i 0)) (out, q)) ∧ ∃ r, (pour (out.getD (q.getD i 0) default + 1) (adj (q.getD i 0)) (out, q)).2 = q ++ r := by
  have hp : q.getD i 0 ∈ q := getD_mem hi
  have hpn := h.lt _ hp
  have hp0 := (h.mem _ hpn).mpr hp
  have hlen := h.len
  dsimp only at hlen hp0
  have key := pour_ind (d := out.getD (q.getD i 0) default + 1) (by omega) (fun s : List Int × List Nat => (Bfs adj n src i s ∧ (∀ v ∈ q, s.1.getD v default = out.getD v default)) ∧ ∃ r, s.2 = q ++ r) (adj (q.getD i 0)) (out, q) (fun u hu => by dsimp only; rw [hlen]; exact hadj _ hpn u hu)
    (fun o s u ho hu hneg ⟨⟨hB, hkq⟩, r, hr⟩ => ?_) ⟨⟨h, fun _ _ => rfl⟩, [], by simp⟩
  · obtain ⟨⟨⟨hB, hkq⟩, r, hr⟩, hall⟩ := key
    refine ⟨⟨hB.len, hB.nd, hB.mem, hB.lt, hB.neg, hB.walk, hB.src0, hB.mono, fun hi' k hk => ?_, hB.small, fun j hj hjl u hu => ?_⟩, r, hr⟩
    · have hil : i < (pour (out.getD (q.getD i 0) default + 1) (adj (q.getD i 0)) (out, q)).2.length := by omega
      have a1 := hB.top hil k hk
      have a2 := hB.mono i (i + 1) (by omega) hi'
      omega
    · by_cases e : j < i
      · exact hB.done j e hjl u hu
      · obtain rfl : j = i := by omega
        have e1 : (pour (out.getD (q.getD j 0) default + 1) (adj (q.getD j 0)) (out, q)).2.getD j 0 = q.getD j 0 := by rw [hr]; simp [List.getD_eq_getElem?_getD, List.getElem?_append_left hi]
        rw [e1] at hu ⊢
        have a1 := hall u hu
        have hun := hadj _ hpn u hu
        refine ⟨a1, ?_⟩
        obtain ⟨k, hk, hk2⟩ := List.getElem_of_mem ((hB.mem u hun).mp a1)
        have hk3 : (pour (out.getD (q.getD j 0) default + 1) (adj (q.getD j 0)) (out, q)).2.getD k 0 = u := by rw [List.getD_eq_getElem?_getD, List.getElem?_eq_getElem hk, hk2]; rfl
        have a2 := hB.top hjl k hk
        rw [hk3, e1] at a2
        exact a2
  · dsimp only at hneg hr hkq ⊢
    have hlo : o.length = n := hB.len
    have hun := hadj _ hpn u hu
    have hnq : u ∉ s := fun g => by have := (hB.mem u hun).mpr g; dsimp only at this; omega
    have hsi : s.getD i 0 = q.getD i 0 := by rw [hr]; simp [List.getD_eq_getElem?_getD, List.getElem?_append_left hi]
    have hpo : o.getD (q.getD i 0) default = out.getD (q.getD i 0) default := hkq _ hp
    have hne : ∀ v ∈ s, (o.set u (out.getD (q.getD i 0) default + 1)).getD v default = o.getD v default := fun v hv => by
      rw [getD_set (by omega), if_neg]; intro e; subst e; exact hnq hv
    have hnew : (o.set u (out.getD (q.getD i 0) default + 1)).getD u default = out.getD (q.getD i 0) default + 1 := by rw [getD_set (by omega), if_pos rfl]
    have hil : i < s.length := by rw [hr]; simp; omega
    have htop := hB.top hil
    dsimp only at htop
    rw [hsi, hpo] at htop
    have hps : q.getD i 0 ∈ s := by rw [hr]; exact List.mem_append_left _ hp
    refine ⟨⟨⟨by simpa using hlo, ?_, fun v hv => ?_, fun v hv => ?_, fun v hv g => ?_, fun v hv => ?_, fun a ha => ?_, fun j k hj hk => ?_, fun _ k hk => ?_, fun j hj => ?_, fun j hj hjl x hx => ?_⟩, fun v hv => ?_⟩, r ++ [u], by rw [hr]; simp⟩
    · dsimp only; rw [List.nodup_append]; exact ⟨hB.nd, by simp, fun a ha b hb e => hnq (by rw [List.mem_singleton] at hb; rw [← hb, ← e]; exact ha)⟩
    · dsimp only; rw [List.mem_append, List.mem_singleton]
      by_cases e : u = v
      · subst e; rw [hnew]; constructor
        · exact fun _ => .inr rfl
        · exact fun _ => by omega
      · rw [getD_set (by omega), if_neg e]
        have := hB.mem v hv
        dsimp only at this
        rw [this]; constructor
        · exact .inl
        · rintro (g | g)
          · exact g
          · exact absurd g.symm e
    · dsimp only at hv; rcases List.mem_append.mp hv with g | g
      · exact hB.lt v g
      · rw [List.mem_singleton.mp g]; exact hun
    · dsimp only at g ⊢
      rw [getD_set (by omega)] at g ⊢
      split
      · rename_i e; rw [if_pos e] at g; omega
      · rename_i e; rw [if_neg e] at g; exact hB.neg v hv g
    · dsimp only at hv ⊢
      rcases List.mem_append.mp hv with g | g
      · rw [hne v g]; exact hB.walk v g
      · rw [List.mem_singleton.mp g, hnew]
        obtain ⟨a, a1, a2⟩ := hB.walk _ hps
        dsimp only at a2
        rw [hpo] at a2
        refine ⟨a, a1, ?_⟩
        have : (out.getD (q.getD i 0) default + 1).toNat = (out.getD (q.getD i 0) default).toNat + 1 := by omega
        rw [this]; exact .snoc a2 hu
    · dsimp only
      have := hB.src0 a ha
      dsimp only at this
      rw [getD_set (by omega), if_neg (fun e => by subst e; omega)]; exact this
    · dsimp only at hk ⊢
      have hk' : k < s.length + 1 := by simpa using hk
      rw [getD_snoc, getD_snoc]
      by_cases e : k < s.length
      · rw [if_pos (by omega), if_pos e, hne _ (getD_mem (by omega)), hne _ (getD_mem e)]; exact hB.mono j k hj e
      · rw [if_neg e, if_pos (show k = s.length by omega), hnew]
        by_cases e' : j < s.length
        · rw [if_pos e', hne _ (getD_mem e')]; exact htop j e'
        · rw [if_neg e', if_pos (show j = s.length by omega), hnew]; omega
    · dsimp only at hk ⊢
      have hk' : k < s.length + 1 := by simpa using hk
      rw [getD_snoc, getD_snoc, if_pos hil, hne _ (getD_mem hil), hsi, hpo]
      by_cases e : k < s.length
      · rw [if_pos e, hne _ (getD_mem e)]; exact htop k e
      · rw [if_neg e, if_pos (show k = s.length by omega), hnew]; omega
    · dsimp only at hj ⊢
      have hj' : j < s.length + 1 := by simpa using hj
      rw [getD_snoc]
      by_cases e : j < s.length
      · rw [if_pos e, hne _ (getD_mem e)]; exact hB.small j e
      · rw [if_neg e, if_pos (show j = s.length by omega), hnew]
        have := hB.small i hil
        dsimp only at this
        rw [hsi, hpo] at this
        omega
    · dsimp only at hjl hx ⊢
      have hjs : j < s.length := by omega
      rw [getD_snoc, if_pos hjs] at hx ⊢
      have := hB.done j hj hjs x hx
      dsimp only at this
      rw [hne _ (getD_mem hjs), getD_set (by omega), if_neg (fun e => by subst e; omega)]
      exact this
    · rw [hne v (by rw [hr]; exact List.mem_append_left _ hv)]; exact hkq v hv
/-- The end. -/
theorem Bfs.far {s : List Int × List Nat} {i : Nat} (h : Bfs adj n src i s) (hi : s.2.length ≤ i) (hsrc : ∀ a ∈ src, a < n) (hadj : ∀ a, a < n → ∀ b ∈ adj a, b < n) : IsFar adj n src s.1 := by
  have hw : ∀ a ∈ src, ∀ v m, Walk adj a v m → v < n ∧ 0 ≤ s.1.getD v default ∧ s.1.getD v default ≤ m := by
    intro a ha v m hm
    induction hm with
    | zero => rw [h.src0 a ha]; exact ⟨hsrc a ha, by omega, by omega⟩
    | @snoc b c d hb hc ih =>
      obtain ⟨i1, i2, i3⟩ := ih
      obtain ⟨j, hj, hjb⟩ := List.getElem_of_mem ((h.mem b i1).mp i2)
      have hjb' : s.2.getD j 0 = b := by rw [List.getD_eq_getElem?_getD, List.getElem?_eq_getElem hj, hjb]; rfl
      have := h.done j (by omega) hj c (by rw [hjb']; exact hc)
      rw [hjb'] at this
      exact ⟨hadj b i1 c hc, this.1, by omega⟩
  refine ⟨h.len, fun v hv => ?_⟩
  by_cases g : 0 ≤ s.1.getD v default
  · right
    obtain ⟨a, a1, a2⟩ := h.walk v ((h.mem v hv).mp g)
    exact ⟨_, (Int.toNat_of_nonneg g).symm, ⟨a, a1, a2⟩, fun b hb m hm => by have := (hw b hb v m hm).2.2; omega⟩
  · left
    refine ⟨h.neg v hv (by omega), fun a ha hr => ?_⟩
    obtain ⟨d, hd⟩ := hr.walk
    exact g (hw a ha v d hd).2.1
/-- The pile of points is never longer than there are points. -/
theorem nodup_le {xs : List Nat} {n : Nat} (h : xs.Nodup) (hl : ∀ x ∈ xs, x < n) : xs.length ≤ n := by
  induction n generalizing xs with
  | zero => cases xs with
    | nil => simp
    | cons x r => exact absurd (hl x List.mem_cons_self) (by omega)
  | succ n ih =>
    have h1 : (xs.filter fun x => decide (x ≠ n)).length ≤ n := ih (h.filter _) fun x hx => by
      rw [List.mem_filter, decide_eq_true_eq] at hx
      have := hl x hx.1; omega
    have h2 : ∀ ys : List Nat, ys.Nodup → ys.length ≤ (ys.filter fun x => decide (x ≠ n)).length + 1 := by
      intro ys
      induction ys with
      | nil => simp
      | cons y r ihr =>
        intro hy
        obtain ⟨y1, y2⟩ := List.nodup_cons.mp hy
        by_cases e : y = n
        · subst e
          have hall : ∀ x ∈ r, decide (x ≠ y) = true := fun x hx => by rw [decide_eq_true_eq]; intro e; subst e; exact y1 hx
          rw [List.filter_cons_of_neg (by simp), List.filter_eq_self.mpr hall]; simp
        · rw [List.filter_cons_of_pos (by simpa using e)]
          have := ihr y2
          simp only [List.length_cons]; omega
    have := h2 xs h
    omega
theorem Bfs.short {s : List Int × List Nat} {i : Nat} (h : Bfs adj n src i s) : s.2.length ≤ n := nodup_le h.nd h.lt
end
end Go.Proofs.Ythdclobnmicdaaa
end

/- How many of a row are of a kind, when one of them is written. -/
section
namespace Go.Proofs.Ythdclobnmicdaaa
open Go Go.RowKit E
set_option linter.unusedVariables false

theorem countP_set' {α : Type} {p : α → Bool} {b d : α} (hb : p b = false) : ∀ {xs : List α} {i : Nat}, i < xs.length → p (xs.getD i d) = true → (xs.set i b).countP p + 1 = xs.countP p
  | [], i, h, _ => absurd h (by simp)
  | x :: xs, 0, _, h => by
    have h' : p x = true := by simpa using h
    simp [List.countP_cons, hb, h']
  | x :: xs, i + 1, hi, h => by
    have ih := countP_set' (p := p) (d := d) hb (xs := xs) (i := i) (by simpa using hi) (by simpa using h)
    simp only [List.set_cons_succ, List.countP_cons]
    omega
def unseen (s : List Bool) : Nat := s.countP (fun b => !b)
theorem unseen_set {s : List Bool} {v : Nat} (hv : v < s.length) (h : s.getD v default = false) : unseen (s.set v true) + 1 = unseen s :=
  countP_set' (p := fun b => !b) (d := default) rfl hv (by rw [h]; rfl)
def unset (s : List Int) : Nat := s.countP (fun b => decide (b < 0))
theorem unset_set {s : List Int} {v : Nat} {d : Int} (hd : 0 ≤ d) (hv : v < s.length) (h : s.getD v default < 0) : unset (s.set v d) + 1 = unset s :=
  countP_set' (p := fun b => decide (b < 0)) (d := default) (by simpa using hd) hv (by simpa using h)
theorem pour_meas {d : Int} (hd : 0 ≤ d) {l : List Nat} {s : List Int × List Nat} (hl : ∀ u ∈ l, u < s.1.length) : 2 * unset (pour d l s).1 + (pour d l s).2.length ≤ 2 * unset s.1 + s.2.length := by
  refine (pour_ind hd (fun q => 2 * unset q.1 + q.2.length ≤ 2 * unset s.1 + s.2.length) l s hl (fun out q u ho hu hneg h => ?_) (Nat.le_refl _)).1
  have := unset_set hd (s := out) (v := u) (by rw [ho]; exact hl u hu) hneg
  simp only [List.length_append, List.length_singleton] at h ⊢
  omega
def dfsMu (adj : Nat → List Nat) (D : Nat) (rs : List (Nat × Nat)) (seen : List Bool) : Nat := unseen seen * (2 * D + 3) + (rs.map fun x => 2 * ((adj x.1).length - x.2) + 1).sum
theorem dfsMu_pop {adj : Nat → List Nat} {D : Nat} {x : Nat × Nat} {rs : List (Nat × Nat)} {seen : List Bool} : dfsMu adj D rs seen < dfsMu adj D (x :: rs) seen := by
  unfold dfsMu; simp only [List.map_cons, List.sum_cons]; omega
theorem dfsMu_next {adj : Nat → List Nat} {D p k : Nat} {rs : List (Nat × Nat)} {seen : List Bool} (hk : k < (adj p).length) : dfsMu adj D ((p, k + 1) :: rs) seen < dfsMu adj D ((p, k) :: rs) seen := by
  unfold dfsMu; simp only [List.map_cons, List.sum_cons]; omega
theorem dfsMu_push {adj : Nat → List Nat} {D p k to : Nat} {rs : List (Nat × Nat)} {seen : List Bool} (hk : k < (adj p).length) (hD : (adj to).length ≤ D) (ht : to < seen.length) (hs : seen.getD to default = false) : dfsMu adj D ((to, 0) :: (p, k + 1) :: rs) (seen.set to true) < dfsMu adj D ((p, k) :: rs) seen := by
  have := unseen_set ht hs
  unfold dfsMu
  rw [← this, Nat.add_mul]
  simp only [List.map_cons, List.sum_cons]; omega
end Go.Proofs.Ythdclobnmicdaaa
end

/- Graphs: built, turned, searched, told into rings. -/
section
namespace Go.Proofs.Ythdclobnmicdaaa
open Go Go.RowKit E
set_option linter.unusedVariables false

abbrev ints (q : List Nat) : List Int := List.map (β := Int) (fun v : Nat => (v : Int)) q
theorem WS {k : Nat} (h : k < 9223372036854775807) : W ((k : Int) + 1) = ((k + 1 : Nat) : Int) := W_nat h
theorem WE {a : Int} (h : -9223372036854775808 ≤ a) (k : a ≤ 9223372036854775807) : W a = a := W_eq h k
theorem ints_get {q : List Nat} {i : Nat} (h : i < q.length) : ix (ints q) (i : Int) = some ((q.getD i 0 : Nat) : Int) := by
  rw [ix_nat (by simpa using h)]
  simp [List.getD_eq_getElem?_getD, h]
theorem ints_snoc (q : List Nat) (v : Nat) : ints (q ++ [v]) = ints q ++ [(v : Int)] := by simp
/-- A row filled with one value. -/
theorem fill_loop {α : Type} (z c : α) (n : Nat) {body : List α × Int → Option ((List α × Int) ⊕ List α)} (go : ∀ (k : Nat) (y : List α), k < n → y.length = n → body (y, (k : Int)) = some (.inl (y.set k c, ((k + 1 : Nat) : Int))))
    (fin : ∀ y : List α, y.length = n → body (y, (n : Int)) = some (.inr y)) : loop body (List.replicate n z, 0) = some (List.replicate n c) := by
  have h1 := loop_up (body := body) n (fun k => (List.replicate k c ++ List.replicate (n - k) z, (k : Int))) (List.replicate n c) (fun k hk => ?_) ?_ 0 (Nat.zero_le _)
  · simpa using h1
  · rw [go k _ hk (by simp; omega), List.set_append_right _ _ (by simp), show n - k = (n - (k + 1)) + 1 by omega, List.replicate_succ, List.length_replicate, Nat.sub_self, List.set_cons_zero, List.replicate_succ']
    simp
  · have := fin (List.replicate n c ++ List.replicate (n - n) z) (by simp)
    simpa using this
/-- Points marked by a loop over a list. -/
theorem pour_loop {β : Type} [Inhabited β] (l : List β) (tgt : β → Nat) (d : Int) (M : Nat) (J : List Int → Prop) {body : List Int × List Int × Int → Option ((List Int × List Int × Int) ⊕ (List Int × List Int))}
    (hJ : ∀ out u, J out → u < out.length → out.getD u default < 0 → J (out.set u d)) (htgt : ∀ out, J out → ∀ a ∈ l, tgt a < out.length)
    (go : ∀ (k : Nat) (out : List Int) (q : List Nat), k < l.length → J out → q.length ≤ M + k → body (out, ints q, (k : Int)) = some (.inl (if out.getD (tgt (l.getD k default)) default < 0 then (out.set (tgt (l.getD k default)) d, ints (q ++ [tgt (l.getD k default)]), ((k + 1 : Nat) : Int)) else (out, ints q, ((k + 1 : Nat) : Int)))))
    (fin : ∀ out q, J out → body (out, q, (l.length : Int)) = some (.inr (out, q))) (out : List Int) (q : List Nat) (hout : J out) (hq : q.length ≤ M) : loop body (out, ints q, 0) = some ((pour d (l.map tgt) (out, q)).1, ints (pour d (l.map tgt) (out, q)).2) := by
  have key : ∀ post pre, l = pre ++ post → ∀ (out : List Int) (q : List Nat), J out → q.length ≤ M + pre.length → loop body (out, ints q, (pre.length : Int)) = some ((pour d (post.map tgt) (out, q)).1, ints (pour d (post.map tgt) (out, q)).2) := by
    intro post
    induction post with
    | nil => intro pre h out q h1 h2; simp at h; subst h; exact loop_end (fin out _ h1)
    | cons a post ih =>
      intro pre h out q h1 h2
      have hk : pre.length < l.length := by rw [h]; simp
      have ha : l.getD pre.length default = a := by rw [h]; simp
      have hm : a ∈ l := by rw [h]; simp
      have hg := go pre.length out q hk h1 h2
      rw [ha] at hg
      have e : (((pre.length + 1 : Nat) : Int)) = ((pre ++ [a]).length : Int) := by simp
      rw [List.map_cons]
      unfold pour
      dsimp only
      by_cases c : out.getD (tgt a) default < 0
      · rw [if_pos c] at hg ⊢
        rw [loop_go hg, e]
        exact ih (pre ++ [a]) (by rw [h]; simp) _ _ (hJ out _ h1 (htgt out h1 a hm) c) (by simp; omega)
      · rw [if_neg c] at hg ⊢
        rw [loop_go hg, e]
        exact ih (pre ++ [a]) (by rw [h]; simp) _ _ h1 (by simp; omega)
  exact key l [] rfl out q hout (by simpa using hq)

/-- A right graph. -/
structure GOk (g : List (List Tstep)) : Prop where
  len : g.length ≤ 1000000
  row : ∀ v, v < g.length → (g.getD v default).length ≤ 1000000
  to_ : ∀ v, v < g.length → ∀ s ∈ g.getD v default, 0 ≤ s.to_ ∧ s.to_ < g.length
def adjG (g : List (List Tstep)) (v : Nat) : List Nat := (g.getD v default).map fun s => s.to_.toNat
theorem GOk.adj {g : List (List Tstep)} (h : GOk g) : ∀ a, a < g.length → ∀ b ∈ adjG g a, b < g.length := by
  intro a ha b hb
  obtain ⟨s, hs, rfl⟩ := List.mem_map.mp hb
  have := h.to_ a ha s hs
  omega
theorem getD_memL {α : Type} [Inhabited α] {xs : List α} {j : Nat} (h : j < xs.length) : xs.getD j default ∈ xs := by simp [List.getD_eq_getElem?_getD, h]

/-- How far points are. -/
theorem far_eq {g : List (List Tstep)} (h : GOk g) {src : List Nat} (hs : ∀ a ∈ src, a < g.length) (hl : src.length ≤ 1000000) : ∃ out, impl_graph_far ⟨g⟩ (ints src) = some out ∧ IsFar (adjG g) g.length src out := by
  have hlen := h.len
  unfold impl_graph_far
  dsimp only
  rw [mk_ok (by omega) (by omega), Option.bind_some, Int.toNat_natCast, fill_loop (0 : Int) (-1) g.length (fun k y hk hy => by
    unfold impl_graph_far.b3
    rw [if_pos (by simp; omega)]
    dsimp only
    rw [ck_nat (by omega), Option.bind_some, WS (by omega)]) (fun y hy => by unfold impl_graph_far.b3; rw [if_neg (by simp)]), Option.bind_some]
  unfold impl_graph_far.k0
  have e1 := pour_loop (body := fun s : List Int × List Int × Int => impl_graph_far.b2 (ints src) s.1 s.2.1 s.2.2) src (fun v => v) 0 0 (fun out => out.length = g.length) (fun out u h1 _ _ => by simpa using h1) (fun out h1 a ha => by rw [h1]; exact hs a ha) (fun k out q hk h1 hq => ?_) (fun out q h1 => by unfold impl_graph_far.b2; rw [if_neg (by simp)]) (List.replicate g.length (-1)) [] (by simp) (by simp)
  · rw [show (ints ([] : List Nat)) = [] from rfl] at e1
    rw [e1, Option.bind_some]
    unfold impl_graph_far.k1
    rw [List.map_id']
    have hB := Bfs.start (adj := adjG g) hs
    have key := loop_inv (body := fun s : List Int × List Int × Int => impl_graph_far.b0 ⟨g⟩ s.1 s.2.1 s.2.2) (fun s => ∃ out q i, s = (out, ints q, ((i : Nat) : Int)) ∧ Bfs (adjG g) g.length src i (out, q) ∧ i ≤ q.length) (fun s => g.length - s.2.2.toNat) (fun r => IsFar (adjG g) g.length src r) ?_ (s := ((pour 0 src (List.replicate g.length (-1), [])).1, ints (pour 0 src (List.replicate g.length (-1), [])).2, 0)) ⟨_, _, 0, rfl, hB, Nat.zero_le _⟩
    · obtain ⟨r, h1, h2⟩ := key
      rw [h1, Option.bind_some]
      exact ⟨r, rfl, h2⟩
    · rintro _ ⟨out, q, i, rfl, hB, hi⟩
      have hsh := hB.short
      dsimp only at hsh ⊢
      by_cases c : i < q.length
      · right
        obtain ⟨hst, r, hr⟩ := hB.step c h.adj
        have hp : q.getD i 0 < g.length := hB.lt _ (getD_mem c)
        have hp0 := (hB.mem _ hp).mpr (getD_mem c)
        have hsm := hB.small i c
        have hlo : out.length = g.length := hB.len
        dsimp only at hp0 hsm
        have hrow := h.row _ hp
        have e2 := pour_loop (body := fun s : List Int × List Int × Int => impl_graph_far.b1 (g.getD (q.getD i 0) default) ((q.getD i 0 : Nat) : Int) s.1 s.2.1 s.2.2) (g.getD (q.getD i 0) default) (fun s => s.to_.toNat) (out.getD (q.getD i 0) default + 1) 1000000 (fun o => o.length = g.length ∧ o.getD (q.getD i 0) default = out.getD (q.getD i 0) default)
          (fun o u h1 hu hneg => ⟨by simpa using h1.1, by rw [getD_set hu, if_neg (fun e => by subst e; omega)]; exact h1.2⟩) (fun o h1 a ha => by have := h.to_ _ hp a ha; rw [h1.1]; omega) (fun k o q' hk h1 hq => ?_) (fun o q h1 => by unfold impl_graph_far.b1; rw [if_neg (by simp)]) out q ⟨hlo, rfl⟩ (by omega)
        · refine ⟨(_, _, ((i + 1 : Nat) : Int)), ?_, ⟨_, _, i + 1, rfl, hst, by rw [hr]; simp; omega⟩, ?_⟩
          · unfold impl_graph_far.b0
            rw [if_pos (by simp; omega), ints_get c, Option.bind_some, ix_nat hp, Option.bind_some, e2, Option.bind_some]
            unfold impl_graph_far.k3
            rw [WS (by omega)]
            rfl
          · dsimp only; omega
        · have hm := getD_memL hk
          have hto := h.to_ _ hp _ hm
          have h1a : o.length = g.length := h1.1
          have h1b : o.getD (q.getD i 0) default = out.getD (q.getD i 0) default := h1.2
          unfold impl_graph_far.b1
          rw [if_pos (by dsimp only; omega)]
          dsimp only
          rw [ix_nat hk, Option.bind_some, ix_ok hto.1 (by omega), Option.bind_some]
          by_cases c2 : o.getD ((g.getD (q.getD i 0) default).getD k default).to_.toNat default < 0
          · rw [if_pos c2, if_pos c2, ix_nat (by omega), Option.bind_some, ck_ok hto.1 (by omega), Option.bind_some, app_small (by simp; omega) (by decide), Option.bind_some, h1b, show W (out.getD (q.getD i 0) default + 1) = out.getD (q.getD i 0) default + 1 from W_eq (by omega) (by omega), WS (by omega)]
            rw [ints_snoc, Int.toNat_of_nonneg hto.1]
          · rw [if_neg c2, if_neg c2, WS (by omega)]
      · left
        refine ⟨out, ?_, hB.far (by dsimp only; omega) hs h.adj⟩
        unfold impl_graph_far.b0
        rw [if_neg (by simp; omega)]
  · unfold impl_graph_far.b2
    rw [if_pos (by simp; omega), ints_get hk, Option.bind_some]
    have ha : src.getD k 0 < g.length := hs _ (getD_mem hk)
    have h1a : out.length = g.length := h1
    have hd : src.getD k default = src.getD k 0 := rfl
    simp only [hd]
    rw [ix_nat (by omega), Option.bind_some]
    by_cases c : out.getD (src.getD k 0) default < 0
    · rw [if_pos c, if_pos c, ck_nat (by omega), Option.bind_some, app_small (by simp; omega) (by decide), Option.bind_some, WS (by omega)]
      simp
    · rw [if_neg c, if_neg c, WS (by omega)]
end Go.Proofs.Ythdclobnmicdaaa
end

/- Graphs made of steps one by one; graphs turned round. -/
section
namespace Go.Proofs.Ythdclobnmicdaaa
open Go Go.RowKit E
set_option linter.unusedVariables false

/-- A loop over a list that makes something anew of what there was and each element. -/
theorem fold_loop {α σ : Type} [Inhabited α] (xs : List α) (f : σ → α → σ) (Inv : Nat → σ → Prop) {body : σ × Int → Option ((σ × Int) ⊕ σ)} (go : ∀ (k : Nat) (st : σ), k < xs.length → Inv k st → body (st, (k : Int)) = some (.inl (f st (xs.getD k default), ((k + 1 : Nat) : Int))) ∧ Inv (k + 1) (f st (xs.getD k default)))
    (fin : ∀ st, Inv xs.length st → body (st, (xs.length : Int)) = some (.inr st)) (st : σ) (h0 : Inv 0 st) : loop body (st, 0) = some (xs.foldl f st) ∧ Inv xs.length (xs.foldl f st) := by
  have key : ∀ post pre, xs = pre ++ post → ∀ st, Inv pre.length st → loop body (st, (pre.length : Int)) = some (post.foldl f st) ∧ Inv xs.length (post.foldl f st) := by
    intro post
    induction post with
    | nil => intro pre h st hi; simp at h; subst h; exact ⟨loop_end (fin st hi), hi⟩
    | cons a post ih =>
      intro pre h st hi
      have hk : pre.length < xs.length := by rw [h]; simp
      have ha : xs.getD pre.length default = a := by rw [h]; simp
      obtain ⟨g1, g2⟩ := go pre.length st hk hi
      rw [ha] at g1 g2
      have e : (((pre.length + 1 : Nat) : Int)) = ((pre ++ [a]).length : Int) := by simp
      rw [loop_go g1, e, List.foldl_cons]
      exact ih (pre ++ [a]) (by rw [h]; simp) _ (by simpa using g2)
  exact key xs [] rfl st h0

def addG (g : List (List Tstep)) (x : Nat × Tstep) : List (List Tstep) := g.set x.1 (g.getD x.1 default ++ [x.2])
theorem add_eq {g : List (List Tstep)} {f : Nat} {to m : Int} (hf : f < g.length) (hr : (g.getD f default).length ≤ 100000000) : impl_graph_add ⟨g⟩ (f : Int) to m = some ⟨addG g (f, ⟨to, m⟩)⟩ := by
  unfold impl_graph_add addG
  dsimp only
  rw [ck_nat hf, Option.bind_some, app_small (by show (g.getD f default).length + 1 ≤ _; omega) (by decide), Option.bind_some]
  rfl
theorem addG_len (g : List (List Tstep)) (x : Nat × Tstep) : (addG g x).length = g.length := by unfold addG; simp
theorem addG_get {g : List (List Tstep)} {x : Nat × Tstep} (hx : x.1 < g.length) (v : Nat) : (addG g x).getD v default = if x.1 = v then g.getD v default ++ [x.2] else g.getD v default := by
  unfold addG
  rw [getD_set hx]
  split
  · rename_i e; rw [e]
  · rfl
theorem addG_le (g : List (List Tstep)) (x : Nat × Tstep) (v : Nat) : (if x.1 = v then g.getD v default ++ [x.2] else g.getD v default).length ≤ (g.getD v default).length + 1 := by
  split
  · rw [List.length_append, List.length_singleton]; omega
  · omega
theorem foldG_len : ∀ (l : List (Nat × Tstep)) (g : List (List Tstep)), (l.foldl addG g).length = g.length
  | [], g => rfl
  | x :: l, g => by rw [List.foldl_cons, foldG_len l, addG_len]
theorem foldG_get {v : Nat} : ∀ (l : List (Nat × Tstep)) (g : List (List Tstep)), (∀ x ∈ l, x.1 < g.length) → (l.foldl addG g).getD v default = g.getD v default ++ (l.filter fun x => decide (x.1 = v)).map (·.2)
  | [], g, _ => by simp
  | x :: l, g, h => by
    rw [List.foldl_cons, foldG_get l _ (fun y hy => by rw [addG_len]; exact h y (List.mem_cons_of_mem _ hy)), addG_get (h x List.mem_cons_self)]
    by_cases e : x.1 = v
    · rw [if_pos e, List.filter_cons_of_pos (by simpa using e)]; simp
    · rw [if_neg e, List.filter_cons_of_neg (by simpa using e)]
def buildG (n : Nat) (l : List (Nat × Tstep)) : List (List Tstep) := l.foldl addG (List.replicate n [])
theorem buildG_len (n : Nat) (l : List (Nat × Tstep)) : (buildG n l).length = n := by unfold buildG; rw [foldG_len]; simp
theorem buildG_get {n : Nat} {l : List (Nat × Tstep)} (h : ∀ x ∈ l, x.1 < n) (v : Nat) : (buildG n l).getD v default = (l.filter fun x => decide (x.1 = v)).map (·.2) := by
  unfold buildG
  rw [foldG_get l _ (by simpa using h)]
  have : (List.replicate n ([] : List Tstep)).getD v default = [] := by
    simp only [List.getD_eq_getElem?_getD, List.getElem?_replicate]
    split <;> rfl
  rw [this]; rfl
theorem buildG_ok {n : Nat} {l : List (Nat × Tstep)} (hn : n ≤ 1000000) (hl : l.length ≤ 1000000) (h : ∀ x ∈ l, x.1 < n) (ht : ∀ x ∈ l, 0 ≤ x.2.to_ ∧ x.2.to_ < n) : GOk (buildG n l) := by
  refine ⟨by rw [buildG_len]; exact hn, fun v hv => ?_, fun v hv s hs => ?_⟩
  · rw [buildG_get h, List.length_map]
    exact Nat.le_trans (List.length_filter_le _ _) hl
  · rw [buildG_get h] at hs
    rw [buildG_len]
    obtain ⟨x, hx, rfl⟩ := List.mem_map.mp hs
    exact ht x (List.mem_filter.mp hx).1
theorem buildG_adj {n : Nat} {l : List (Nat × Tstep)} (h : ∀ x ∈ l, x.1 < n) (a b : Nat) : b ∈ adjG (buildG n l) a ↔ ∃ x ∈ l, x.1 = a ∧ x.2.to_.toNat = b := by
  unfold adjG
  rw [buildG_get h]
  simp only [List.mem_map, List.mem_filter, decide_eq_true_eq]
  constructor
  · rintro ⟨s, ⟨x, ⟨h1, h2⟩, rfl⟩, h3⟩; exact ⟨x, h1, h2, h3⟩
  · rintro ⟨x, h1, h2, h3⟩; exact ⟨x.2, ⟨x, ⟨h1, h2⟩, rfl⟩, h3⟩
theorem graphOf_eq {n : Nat} (h : n ≤ 1000000) : impl_graphOf (n : Int) = some ⟨List.replicate n []⟩ := by
  unfold impl_graphOf
  rw [mk_ok (by omega) (by omega), Option.bind_some, Int.toNat_natCast]

/-- A graph's steps turned round. -/
def stepsB (g : List (List Tstep)) (vs : List Nat) : List (Nat × Tstep) := vs.flatMap fun v => (g.getD v default).map fun s => (s.to_.toNat, Tstep.mk (v : Int) s.marks)
def total (g : List (List Tstep)) : Nat := (stepsB g (List.range g.length)).length
theorem back_eq {g : List (List Tstep)} (h : GOk g) (ht : total g ≤ 1000000) : impl_graph_back ⟨g⟩ = some ⟨buildG g.length (stepsB g (List.range g.length))⟩ := by
  have h1 := h.len
  unfold impl_graph_back
  dsimp only
  rw [graphOf_eq h1, Option.bind_some]
  have hsub : ∀ k, k ≤ g.length → (stepsB g (List.range k)).length ≤ total g := fun k hk => by
    unfold total
    have : List.range g.length = List.range k ++ (List.range (g.length - k)).map (k + ·) := by
      rw [← List.range_add]; congr 1; omega
    rw [this]; unfold stepsB; rw [List.flatMap_append, List.length_append]; omega
  have key := loop_up (body := fun s : List (List Tstep) × Int => impl_graph_back.b0 ⟨g⟩ s.1 s.2) g.length (fun k => (buildG g.length (stepsB g (List.range k)), (k : Int))) (buildG g.length (stepsB g (List.range g.length))) (fun k hk => ?_) ?_ 0 (Nat.zero_le _)
  · have e : buildG g.length (stepsB g (List.range 0)) = List.replicate g.length [] := rfl
    rw [e] at key
    have key' : loop (fun s : List (List Tstep) × Int => impl_graph_back.b0 ⟨g⟩ s.1 s.2) (List.replicate g.length [], 0) = _ := key
    rw [key']; rfl
  · dsimp only
    unfold impl_graph_back.b0
    rw [if_pos (by dsimp only; omega), ix_nat hk, Option.bind_some]
    have hfr : ∀ m, m ≤ g.length → ∀ x ∈ stepsB g (List.range m), x.1 < g.length := fun m hm x hx => by
      obtain ⟨v, hv, hx⟩ := List.mem_flatMap.mp hx
      obtain ⟨s, hs, rfl⟩ := List.mem_map.mp hx
      have hv' := List.mem_range.mp hv
      have := h.to_ v (by omega) s hs
      dsimp only; omega
    have hk1 := hsub k (by omega)
    have hk2 := hsub (k + 1) (by omega)
    have hsplit : stepsB g (List.range (k + 1)) = stepsB g (List.range k) ++ (g.getD k default).map fun s => (s.to_.toNat, Tstep.mk (k : Int) s.marks) := by
      rw [List.range_succ]; unfold stepsB; rw [List.flatMap_append]; simp
    have hlen2 : (stepsB g (List.range k)).length + (g.getD k default).length ≤ 1000000 := by
      rw [hsplit, List.length_append, List.length_map] at hk2; omega
    have e2 := fold_loop (body := fun s : List (List Tstep) × Int => impl_graph_back.b1 (g.getD k default) (k : Int) s.1 s.2) (g.getD k default) (fun y s => addG y (s.to_.toNat, Tstep.mk (k : Int) s.marks)) (fun j y => y.length = g.length ∧ ∀ v, (y.getD v default).length ≤ (stepsB g (List.range k)).length + j) (fun j y hj hI => ?_) (fun y _ => by
      unfold impl_graph_back.b1; rw [if_neg (by simp)]) (buildG g.length (stepsB g (List.range k))) ⟨buildG_len _ _, fun v => by
        rw [buildG_get (hfr k (by omega)), List.length_map]; exact List.length_filter_le _ _⟩
    · rw [e2.1, Option.bind_some]
      unfold impl_graph_back.k1
      rw [WS (by omega), hsplit]
      unfold buildG
      rw [List.foldl_append, List.foldl_map]
    · obtain ⟨i1, i2⟩ := hI
      have hto := h.to_ k hk _ (getD_memL hj)
      have hf : ((g.getD k default).getD j default).to_.toNat < y.length := by omega
      refine ⟨?_, by rw [addG_len]; exact i1, fun v => ?_⟩
      · unfold impl_graph_back.b1
        rw [if_pos (by dsimp only; omega)]
        dsimp only
        rw [ix_nat hj, Option.bind_some]
        have := add_eq (g := y) (to := (k : Int)) (m := ((g.getD k default).getD j default).marks) hf (by have := i2 ((g.getD k default).getD j default).to_.toNat; omega)
        rw [Int.toNat_of_nonneg hto.1] at this
        rw [this, Option.bind_some, WS (by have := h.row k hk; omega)]
      · rw [addG_get hf]
        have := i2 v
        have h3 := addG_le y (((g.getD k default).getD j default).to_.toNat, Tstep.mk (k : Int) ((g.getD k default).getD j default).marks) v
        omega
  · dsimp only
    unfold impl_graph_back.b0
    rw [if_neg (by simp)]
theorem back_from {g : List (List Tstep)} (h : GOk g) : ∀ x ∈ stepsB g (List.range g.length), x.1 < g.length := fun x hx => by
  obtain ⟨v, hv, hx⟩ := List.mem_flatMap.mp hx
  obtain ⟨s, hs, rfl⟩ := List.mem_map.mp hx
  have := h.to_ v (List.mem_range.mp hv) s hs
  dsimp only; omega
theorem back_ok {g : List (List Tstep)} (h : GOk g) (ht : total g ≤ 1000000) : GOk (buildG g.length (stepsB g (List.range g.length))) := by
  refine buildG_ok h.len ht (back_from h) fun x hx => ?_
  obtain ⟨v, hv, hx⟩ := List.mem_flatMap.mp hx
  obtain ⟨s, hs, rfl⟩ := List.mem_map.mp hx
  have := List.mem_range.mp hv
  dsimp only; omega
theorem back_adj {g : List (List Tstep)} (h : GOk g) {p u : Nat} (hp : p < g.length) (hu : u < g.length) : u ∈ adjG (buildG g.length (stepsB g (List.range g.length))) p ↔ p ∈ adjG g u := by
  rw [buildG_adj (back_from h)]
  constructor
  · rintro ⟨x, hx, rfl, h2⟩
    obtain ⟨v, hv, hx⟩ := List.mem_flatMap.mp hx
    obtain ⟨s, hs, rfl⟩ := List.mem_map.mp hx
    have : v = u := by simpa using h2
    subst this
    exact List.mem_map.mpr ⟨s, hs, rfl⟩
  · intro hm
    obtain ⟨s, hs, rfl⟩ := List.mem_map.mp hm
    exact ⟨_, List.mem_flatMap.mpr ⟨u, List.mem_range.mpr hu, List.mem_map.mpr ⟨s, hs, rfl⟩⟩, rfl, by simp⟩
theorem stepsB_len {n : Nat} {l : List (Nat × Tstep)} (h : ∀ x ∈ l, x.1 < n) : total (buildG n l) ≤ l.length := by
  unfold total
  rw [buildG_len]
  have key : ∀ k, (stepsB (buildG n l) (List.range k)).length = (l.filter fun x => decide (x.1 < k)).length := by
    intro k
    induction k with
    | zero => rw [List.filter_eq_nil_iff.mpr (by simp)]; rfl
    | succ k ih =>
      rw [List.range_succ]
      have : stepsB (buildG n l) (List.range k ++ [k]) = stepsB (buildG n l) (List.range k) ++ ((buildG n l).getD k default).map fun s => (s.to_.toNat, Tstep.mk (k : Int) s.marks) := by unfold stepsB; rw [List.flatMap_append]; simp
      rw [this, List.length_append, ih, List.length_map, buildG_get h, List.length_map]
      have key2 : ∀ l : List (Nat × Tstep), (l.filter fun x => decide (x.1 < k)).length + (l.filter fun x => decide (x.1 = k)).length = (l.filter fun x => decide (x.1 < k + 1)).length := by
        intro l
        induction l with
        | nil => rfl
        | cons x l ih =>
          simp only [List.filter_cons]
          by_cases c1 : x.1 < k
          · have c2 : ¬ x.1 = k := by omega
            have c3 : x.1 < k + 1 := by omega
            simp [c1, c2, c3]; omega
          · by_cases c2 : x.1 = k
            · have c3 : x.1 < k + 1 := by omega
              simp [c1, c2]; omega
            · have c3 : ¬ x.1 < k + 1 := by omega
              simp [c1, c2, c3]; omega
      exact key2 l
  rw [key]
  exact List.length_filter_le _ _
/-- Ways turned round. -/
theorem Rch_rev {adj radj : Nat → List Nat} {n : Nat} (hadj : ∀ a, a < n → ∀ b ∈ adj a, b < n) (h : ∀ p u, p < n → u < n → (u ∈ radj p ↔ p ∈ adj u)) {a b : Nat} (hr : Rch adj a b) : a < n → Rch radj b a := by
  induction hr with
  | refl a => exact fun _ => .refl a
  | @head a b c hab hbc ih =>
    intro ha
    have hb := hadj a ha b hab
    exact (ih hb).snoc ((h b a hb ha).mpr hab)
end Go.Proofs.Ythdclobnmicdaaa
end

/- Loops that ask whether all are so. -/
section
namespace Go.Proofs.Ythdclobnmicdaaa
open Go Go.RowKit E
set_option linter.unusedVariables false

theorem inRg (x a b : Int) : impl_inRange x a b = decide (a ≤ x ∧ x ≤ b) := inR
theorem l1Rg (x a b : Int) : spec_l1In x a b = decide (a ≤ x ∧ x ≤ b) := inR
theorem WN {k : Nat} (h : k < 9223372036854775807) : W ((k : Int) + 1) = ((k + 1 : Nat) : Int) := W_nat h
/-- A loop that asks each place. -/
theorem all_loop {body : Int → Option (Int ⊕ (Unit ⊕ Bool))} (n : Nat) (c : Nat → Bool) (go : ∀ k, k < n → body (k : Int) = some (if c k = true then .inl ((k + 1 : Nat) : Int) else .inr (.inr false))) (fin : body (n : Int) = some (.inr (.inl ()))) : loop body 0 = some (if (List.range n).all c = true then .inl () else .inr false) := by
  have key : ∀ d k, k + d = n → (∀ j, j < k → c j = true) → loop body (k : Int) = some (if (List.range n).all c = true then .inl () else .inr false) := by
    intro d
    induction d with
    | zero =>
      intro k hk he
      obtain rfl : k = n := by omega
      rw [if_pos (List.all_eq_true.mpr fun x hx => he x (List.mem_range.mp hx))]
      exact loop_end fin
    | succ d ih =>
      intro k hk he
      by_cases h : c k = true
      · rw [loop_go (s' := ((k + 1 : Nat) : Int)) (by rw [go k (by omega), if_pos h])]
        refine ih (k + 1) (by omega) fun j hj => ?_
        by_cases e : j = k
        · rw [e]; exact h
        · exact he j (by omega)
      · rw [if_neg (fun g => h (List.all_eq_true.mp g k (List.mem_range.mpr (by omega))))]
        exact loop_end (by rw [go k (by omega), if_neg h])
  exact key n 0 (by omega) (fun j hj => absurd hj (by omega))
end Go.Proofs.Ythdclobnmicdaaa
end

/- Letters below a number: the program. -/
section
namespace Go.Proofs.Ythdclobnmicdaaa
open Go Go.RowKit E
set_option linter.unusedVariables false

def lettersOk (w : List Int) (n : Int) : Bool := (List.range w.length).all fun k => decide (0 ≤ w.getD k default ∧ w.getD k default ≤ W (n - 1))
theorem implLetters_eq (w : List Int) (n : Int) (hl : w.length ≤ 1048576) : impl_areLetters w n = some (lettersOk w n) := by
  unfold impl_areLetters
  rw [all_loop w.length (fun k => decide (0 ≤ w.getD k default ∧ w.getD k default ≤ W (n - 1))) (fun k hk => ?_) (by unfold impl_areLetters.b0; rw [if_neg (by omega)]), Option.bind_some]
  · show Sum.elim _ _ (if lettersOk w n = true then _ else _) = _
    cases lettersOk w n <;> rfl
  · unfold impl_areLetters.b0
    rw [if_pos (by omega), ix_nat hk, Option.bind_some, inRg, WN (by omega)]
    cases decide (0 ≤ w.getD k default ∧ w.getD k default ≤ W (n - 1)) <;> rfl

end Go.Proofs.Ythdclobnmicdaaa
end

/- Letters below a number: the reference. -/
section
namespace Go.Proofs.Ythdclobnmicdaaa
open Go Go.RowKit E
set_option linter.unusedVariables false

theorem specLetters_eq (w : List Int) (n : Int) (hl : w.length ≤ 1048576) : spec_l3Letters w n = some (lettersOk w n) := by
  unfold spec_l3Letters
  rw [all_loop w.length (fun k => decide (0 ≤ w.getD k default ∧ w.getD k default ≤ W (n - 1))) (fun k hk => ?_) (by unfold spec_l3Letters.b0; rw [if_neg (by omega)]), Option.bind_some]
  · show Sum.elim _ _ (if lettersOk w n = true then _ else _) = _
    cases lettersOk w n <;> rfl
  · unfold spec_l3Letters.b0
    rw [if_pos (by omega), ix_nat hk, Option.bind_some, l1Rg, WN (by omega)]
    cases decide (0 ≤ w.getD k default ∧ w.getD k default ≤ W (n - 1)) <;> rfl

end Go.Proofs.Ythdclobnmicdaaa
end

/- Words: which are right, their letters, the next place. -/
section
namespace Go.Proofs.Ythdclobnmicdaaa
open Go Go.RowKit E
set_option linter.unusedVariables false

def wordOk (w : TWord) (n : Int) : Bool := decide (1 ≤ n ∧ n ≤ 8) && decide (w.stem.length ≤ 40) && decide (1 ≤ w.loop.length ∧ w.loop.length ≤ 40) && lettersOk w.stem n && lettersOk w.loop n
theorem specWordOk_eq (w : TWord) (n : Int) : spec_WordOk w n = some (wordOk w n) := by
  unfold spec_WordOk wordOk
  rw [bnd_eq, bnd_eq, l1Rg, l1Rg]
  by_cases h1 : 1 ≤ n ∧ n ≤ 8
  · by_cases h2 : w.stem.length ≤ 40
    · by_cases h3 : 1 ≤ w.loop.length ∧ w.loop.length ≤ 40
      · rw [decide_eq_true h1, decide_eq_true h2, decide_eq_true h3, decide_eq_false (by omega : ¬ (w.stem.length : Int) > 40), decide_eq_true (by omega : 1 ≤ (w.loop.length : Int) ∧ (w.loop.length : Int) ≤ 40), if_neg (by simp), specLetters_eq _ _ (by omega), Option.bind_some]
        cases lettersOk w.stem n
        · rfl
        · rw [whenO_t, specLetters_eq _ _ (by omega)]; simp
      · rw [decide_eq_false (by omega : ¬ (1 ≤ (w.loop.length : Int) ∧ (w.loop.length : Int) ≤ 40)), decide_eq_false h3, if_pos (by simp)]; simp
    · rw [decide_eq_true (by omega : (w.stem.length : Int) > 40), decide_eq_false h2, if_pos (by simp)]; simp
  · rw [decide_eq_false h1, if_pos (by simp)]; simp
/-- What a right word is. -/
structure WOk (w : TWord) : Prop where
  stem : w.stem.length ≤ 40
  one : 1 ≤ w.loop.length
  loop : w.loop.length ≤ 40
  ls : ∀ k, k < w.stem.length → 0 ≤ w.stem.getD k default ∧ w.stem.getD k default ≤ 7
  ll : ∀ k, k < w.loop.length → 0 ≤ w.loop.getD k default ∧ w.loop.getD k default ≤ 7
theorem lettersOk_t {l : List Int} {n : Int} (hn : 1 ≤ n ∧ n ≤ 8) (h : lettersOk l n = true) : ∀ k, k < l.length → 0 ≤ l.getD k default ∧ l.getD k default ≤ n - 1 := by
  intro k hk
  have := List.all_eq_true.mp h k (List.mem_range.mpr hk)
  rw [decide_eq_true_eq, W, W_eq (by omega) (by omega)] at this
  exact this
theorem wordOk_t {w : TWord} {n : Int} (h : wordOk w n = true) : WOk w ∧ (1 ≤ n ∧ n ≤ 8) ∧ lettersOk w.stem n = true ∧ lettersOk w.loop n = true := by
  unfold wordOk at h
  simp only [Bool.and_eq_true, decide_eq_true_eq] at h
  obtain ⟨⟨⟨⟨h1, h2⟩, h3⟩, h4⟩, h5⟩ := h
  exact ⟨⟨h2, h3.1, h3.2, fun k hk => by have := lettersOk_t h1 h4 k hk; omega, fun k hk => by have := lettersOk_t h1 h5 k hk; omega⟩, h1, h4, h5⟩
/-- How many places; the letter at a place; the place behind it. -/
def plN (w : TWord) : Nat := w.stem.length + w.loop.length
def letN (w : TWord) (p : Nat) : Nat := (if p < w.stem.length then w.stem.getD p default else w.loop.getD (p - w.stem.length) default).toNat
def nxN (w : TWord) (p : Nat) : Nat := if p + 1 = plN w then w.stem.length else p + 1
theorem nxN_lt {w : TWord} (h : WOk w) {p : Nat} (hp : p < plN w) : nxN w p < plN w := by
  have := h.one
  unfold nxN plN at *
  split <;> omega
theorem letN_le {w : TWord} (h : WOk w) {p : Nat} (hp : p < plN w) : letN w p ≤ 7 := by
  unfold letN
  split
  · rename_i k; have := h.ls p k; omega
  · rename_i k; have := h.ll (p - w.stem.length) (by unfold plN at hp; omega); omega
theorem l6Places_eq {w : TWord} (h : WOk w) : spec_l6Places w = (plN w : Int) := by
  have := h.stem; have := h.loop
  unfold spec_l6Places plN
  rw [W, W_eq (by omega) (by omega)]; omega
theorem l6After_eq {w : TWord} (h : WOk w) {p : Nat} (hp : p < plN w) : spec_l6After w (p : Int) = (nxN w p : Int) := by
  have h1 := h.stem; have h2 := h.loop
  unfold spec_l6After nxN
  unfold plN at hp
  rw [l6Places_eq h, W, W_eq (by omega) (by omega)]
  unfold plN
  split <;> split <;> omega
theorem l3At_eq {w : TWord} (h : WOk w) {p : Nat} (hp : p < plN w) : spec_l3At w (p : Int) = some (letN w p : Int) := by
  have h1 := h.stem; have h2 := h.loop; have h3 := h.one
  unfold spec_l3At letN
  unfold plN at hp
  split
  · rename_i k
    have k' : p < w.stem.length := by omega
    have := h.ls p k'
    rw [ix_nat k', Option.bind_some, if_pos k', Int.toNat_of_nonneg this.1]
  · rename_i k
    have := h.ll (p - w.stem.length) (by omega)
    rw [decide_eq_true (by omega), chk_t, Option.bind_some, W, W_eq (by omega) (by omega), show (p : Int) - (w.stem.length : Int) = ((p - w.stem.length : Nat) : Int) by omega, ← Int.ofNat_tmod, Nat.mod_eq_of_lt (by omega), ix_nat (by omega), Option.bind_some, if_neg (by omega), Int.toNat_of_nonneg this.1]
end Go.Proofs.Ythdclobnmicdaaa
end

/- Words, as the program tells them. -/
section
namespace Go.Proofs.Ythdclobnmicdaaa
open Go Go.RowKit E
set_option linter.unusedVariables false

theorem implWordOk_eq (w : TWord) (n : Int) : impl_WordOk w n = some (wordOk w n) := by
  unfold impl_WordOk wordOk impl_isLetters
  rw [bnd_eq, bnd_eq, inRg, inRg]
  by_cases h1 : 1 ≤ n ∧ n ≤ 8
  · by_cases h2 : w.stem.length ≤ 40
    · by_cases h3 : 1 ≤ w.loop.length ∧ w.loop.length ≤ 40
      · rw [decide_eq_true h1, decide_eq_true h2, decide_eq_true h3, decide_eq_false (by omega : ¬ (w.stem.length : Int) > 40), decide_eq_true (by omega : 1 ≤ (w.loop.length : Int) ∧ (w.loop.length : Int) ≤ 40), if_neg (by simp), implLetters_eq _ _ (by omega), Option.bind_some]
        cases lettersOk w.stem n
        · rfl
        · rw [whenO_t, implLetters_eq _ _ (by omega)]; simp
      · rw [decide_eq_false (by omega : ¬ (1 ≤ (w.loop.length : Int) ∧ (w.loop.length : Int) ≤ 40)), decide_eq_false h3, if_pos (by simp)]; simp
    · rw [decide_eq_true (by omega : (w.stem.length : Int) > 40), decide_eq_false h2, if_pos (by simp)]; simp
  · rw [decide_eq_false h1, if_pos (by simp)]; simp
theorem places_eq {w : TWord} (h : WOk w) : impl_Word_places w = (plN w : Int) := by
  have := h.stem; have := h.loop
  unfold impl_Word_places plN
  rw [W, W_eq (by omega) (by omega)]; omega
theorem next_eq {w : TWord} (h : WOk w) {p : Nat} (hp : p < plN w) : impl_Word_next w (p : Int) = (nxN w p : Int) := by
  have h1 := h.stem; have h2 := h.loop
  unfold impl_Word_next nxN
  unfold plN at hp
  rw [places_eq h, W, W_eq (by omega) (by omega)]
  unfold plN
  split <;> split <;> omega
theorem letter_eq {w : TWord} (h : WOk w) {p : Nat} (hp : p < plN w) : impl_Word_letter w (p : Int) = some (letN w p : Int) := by
  have h1 := h.stem; have h2 := h.loop
  unfold impl_Word_letter letN
  unfold plN at hp
  split
  · rename_i k
    have k' : p < w.stem.length := by omega
    have := h.ls p k'
    rw [ix_nat k', Option.bind_some, if_pos k', Int.toNat_of_nonneg this.1]
  · rename_i k
    have := h.ll (p - w.stem.length) (by omega)
    rw [W, W_eq (by omega) (by omega), show (p : Int) - (w.stem.length : Int) = ((p - w.stem.length : Nat) : Int) by omega, ix_nat (by omega), Option.bind_some, if_neg (by omega), Int.toNat_of_nonneg this.1]
end Go.Proofs.Ythdclobnmicdaaa
end

/- Powers of two. -/
section
namespace Go.Proofs.Ythdclobnmicdaaa
open Go Go.RowKit E
set_option linter.unusedVariables false

theorem pow31 {n : Nat} (h : n ≤ 31) : 2 ^ n ≤ 2147483648 ∧ 1 ≤ 2 ^ n := ⟨by
  have : 2 ^ n ≤ 2 ^ 31 := Nat.pow_le_pow_right (by omega) h
  exact this, Nat.two_pow_pos n⟩
theorem lt31 {n s : Nat} (hn : n ≤ 31) (h : s < 2 ^ n) : s < 2 ^ 31 := Nat.lt_of_lt_of_le h (Nat.pow_le_pow_right (by omega) hn)
end Go.Proofs.Ythdclobnmicdaaa
end

/- Members of sets, by the reference. -/
section
namespace Go.Proofs.Ythdclobnmicdaaa
open Go Go.RowKit E
set_option linter.unusedVariables false

theorem and31 {x : Int} (h : 0 ≤ x ∧ x ≤ 30) : bAnd .i64 x 31 = x := by
  obtain ⟨y, rfl⟩ : ∃ y : Nat, x = y := ⟨x.toNat, by omega⟩
  have := bAnd_i (a := y) (b := 31) (by omega) (by omega)
  rw [show ((31 : Nat) : Int) = 31 from rfl] at this
  rw [this, show (31 : Nat) = 2 ^ 5 - 1 from rfl, Nat.and_two_pow_sub_one_eq_mod, Nat.mod_eq_of_lt (by omega)]
theorem l1Bit_eq {x : Int} (h : 0 ≤ x ∧ x ≤ 30) : spec_l1Bit x = some ((2 ^ x.toNat : Nat) : Int) := by
  unfold spec_l1Bit
  rw [and31 h, decide_eq_true h.1, chk_t, Option.bind_some]
  have := shl1_i (n := x.toNat) (by omega)
  rw [show ((x.toNat : Nat) : Int) = x by omega] at this
  rw [this]
theorem and_pow (s n : Nat) : decide (s &&& 2 ^ n ≠ 0) = s.testBit n := by
  cases h : s.testBit n with
  | false =>
    have : s &&& 2 ^ n = 0 := Nat.eq_of_testBit_eq fun i => by
      rw [Nat.testBit_and, Nat.testBit_two_pow, Nat.zero_testBit]
      by_cases e : n = i
      · subst e; rw [h]; rfl
      · simp [e]
    simp [this]
  | true =>
    rw [decide_eq_true_eq]
    intro g
    have := congrArg (fun x => x.testBit n) g
    simp [Nat.testBit_and, h, Nat.testBit_two_pow] at this
theorem l1Has_eq {s : Nat} (hs : s < 2 ^ 31) {x : Int} (h : 0 ≤ x ∧ x ≤ 30) : spec_l1Has (s : Int) x = some (s.testBit x.toNat) := by
  unfold spec_l1Has
  have hp := pow31 (n := x.toNat) (by omega)
  have h31 : (2 : Nat) ^ 31 = 2147483648 := rfl
  rw [bnd_eq, show spec_l1In x 0 30 = decide (0 ≤ x ∧ x ≤ 30) from inR, decide_eq_true h, whenO_t, l1Bit_eq h, Option.bind_some, bAnd_i (by omega) (by omega), Bool.true_and, ← and_pow]
  congr 1
  rw [decide_eq_decide]; omega
end Go.Proofs.Ythdclobnmicdaaa
end

/- Tables told by a function. -/
section
namespace Go.Proofs.Ythdclobnmicdaaa
open Go Go.RowKit E
set_option linter.unusedVariables false

def T {α : Type} (n : Nat) (f : Nat → α) : List α := (List.range n).map f
theorem T_len {α : Type} {n : Nat} {f : Nat → α} : (T n f).length = n := by simp [T]
theorem T_get {α : Type} {n k : Nat} {f : Nat → α} (h : k < n) (d : α) : (T n f).getD k d = f k := by simp [T, h]
theorem T_ix {α : Type} [Inhabited α] {n k : Nat} {f : Nat → α} (h : k < n) : ix (T n f) (k : Int) = some (f k) := by
  rw [ix_nat (by rw [T_len]; exact h), T_get h]
theorem T_ixI {α : Type} [Inhabited α] {n : Nat} {x : Int} {f : Nat → α} (h0 : 0 ≤ x) (h : x < n) : ix (T n f) x = some (f x.toNat) := by
  have := T_ix (f := f) (show x.toNat < n by omega)
  rw [show ((x.toNat : Nat) : Int) = x by omega] at this; exact this
theorem T_ck {α : Type} {n k : Nat} {f : Nat → α} (h : k < n) : ck (k : Int) (T n f).length = some k := ck_nat (by rw [T_len]; exact h)
theorem T_congr {α : Type} {n : Nat} {f g : Nat → α} (h : ∀ i, i < n → f i = g i) : T n f = T n g := List.map_congr_left fun i hi => h i (List.mem_range.mp hi)
theorem T_set {α : Type} {n k : Nat} {f : Nat → α} {v : α} : (T n f).set k v = T n (fun i => if i = k then v else f i) := by
  apply List.ext_getElem
  · simp [T]
  · intro i h1 h2
    have hi : i < n := by simpa [T] using h2
    rw [List.getElem_set]
    simp only [T, List.getElem_map, List.getElem_range]
    by_cases e : k = i
    · rw [if_pos e, if_pos e.symm]
    · rw [if_neg e, if_neg (fun x => e x.symm)]
theorem T_mk {α : Type} {y n : Nat} {z : α} (h : (y : Int) * (n : Int) ≤ 281474976710656) : mk y z (n : Int) = some (T n fun _ => z) := by
  rw [mk_ok (by omega) h, Int.toNat_natCast, show T n (fun _ => z) = List.replicate n z by simp [T, List.map_const']]
theorem T_snoc {α : Type} {n : Nat} {f : Nat → α} : T (n + 1) f = T n f ++ [f n] := by simp [T, List.range_succ]
/-- A table filled from the left. -/
theorem T_fill {α ρ : Type} (body : List α × Int → Option ((List α × Int) ⊕ ρ)) (n : Nat) (f g : Nat → α) (r : ρ) (go : ∀ k, k < n → body (T n (fun i => if i < k then g i else f i), (k : Int)) = some (.inl ((T n (fun i => if i < k then g i else f i)).set k (g k), ((k + 1 : Nat) : Int)))) (fin : body (T n g, (n : Int)) = some (.inr r)) : loop body (T n f, 0) = some r := by
  have h := loop_up (body := body) n (fun k => (T n (fun i => if i < k then g i else f i), (k : Int))) r (fun k hk => ?_) ?_ 0 (Nat.zero_le _)
  · have e : T n (fun i => if i < 0 then g i else f i) = T n f := T_congr fun i _ => by rw [if_neg (by omega)]
    rw [e] at h; exact h
  · rw [go k hk, T_set]
    have e : T n (fun i => if i = k then g k else if i < k then g i else f i) = T n (fun i => if i < k + 1 then g i else f i) := T_congr fun i _ => by
      by_cases e1 : i = k
      · subst e1; rw [if_pos rfl, if_pos (by omega)]
      · rw [if_neg e1]
        by_cases e2 : i < k
        · rw [if_pos e2, if_pos (by omega)]
        · rw [if_neg e2, if_neg (by omega)]
    rw [e]
  · have e : T n (fun i => if i < n then g i else f i) = T n g := T_congr fun i hi => by rw [if_pos hi]
    rw [e]; exact fin

end Go.Proofs.Ythdclobnmicdaaa
end

/- The points of a word: to which of them steps lead, by the reference. -/
section
namespace Go.Proofs.Ythdclobnmicdaaa
open Go Go.RowKit E
set_option linter.unusedVariables false

/-- What a right automaton of many marks is; it has states. -/
structure GW (g : TGen) : Prop where
  lets : 1 ≤ g.letters ∧ g.letters ≤ 8
  sts : 1 ≤ g.states ∧ g.states ≤ 31
  start : 0 ≤ g.start ∧ g.start < ((2 ^ g.states.toNat : Nat) : Int)
  sets : 0 ≤ g.sets ∧ g.sets ≤ 4
  num : g.edges.length ≤ 2000
  edge : ∀ e ∈ g.edges, (0 ≤ e.from_ ∧ e.from_ < g.states) ∧ (0 ≤ e.to_ ∧ e.to_ < g.states) ∧ (0 ≤ e.letter ∧ e.letter < g.letters) ∧ (0 ≤ e.marks ∧ e.marks < ((2 ^ g.sets.toNat : Nat) : Int))
abbrev tN (n : Nat) (f : Nat → Nat) : List Int := T n fun i => ((f i : Nat) : Int)
theorem gedge_mem {g : TGen} {i : Nat} (h : i < g.edges.length) : g.edges.getD i default ∈ g.edges := by
  rw [List.getD_eq_getElem?_getD, List.getElem?_eq_getElem h]; exact List.getElem_mem h
theorem mem_gedge {g : TGen} {e : TGEdge} (h : e ∈ g.edges) : ∃ i, i < g.edges.length ∧ g.edges.getD i default = e := by
  obtain ⟨i, hi, rfl⟩ := List.getElem_of_mem h
  exact ⟨i, hi, by rw [List.getD_eq_getElem?_getD, List.getElem?_eq_getElem hi]; rfl⟩
theorem bit_or {a b t : Nat} : (a ||| 2 ^ b).testBit t = true ↔ a.testBit t = true ∨ b = t := by
  rw [Nat.testBit_or, Bool.or_eq_true, Nat.testBit_two_pow, decide_eq_true_eq]
theorem or_lt' {a b k : Nat} (ha : a < 2 ^ k) (hb : b < 2 ^ k) : a ||| b < 2 ^ k := Nat.or_lt_two_pow ha hb
theorem or_lt31 {a b k : Nat} (hk : k ≤ 31) (ha : a < 2 ^ k) (hb : b < 2 ^ k) : bOr .i64 (a : Int) (b : Int) = ((a ||| b : Nat) : Int) := by
  have h1 := lt31 hk ha
  have h2 := lt31 hk hb
  have h31 : (2 : Nat) ^ 31 = 2147483648 := rfl
  exact bOr_i (by omega) (by omega)
/-- The states behind each state by each letter. -/
theorem succ_ok {g : TGen} (h : GW g) : ∃ σ : Nat → Nat, spec_l6Succ g false = some (tN (8 * g.states.toNat) σ) ∧ (∀ i, σ i < 2 ^ g.states.toNat) ∧ ∀ i t, (σ i).testBit t = true ↔ ∃ e ∈ g.edges, 8 * e.from_.toNat + e.letter.toNat = i ∧ e.to_.toNat = t := by
  have hs := h.sts
  have hn := h.num
  have hL := h.lets
  unfold spec_l6Succ
  have w : W (8 * g.states) = ((8 * g.states.toNat : Nat) : Int) := by rw [W, W_eq (by omega) (by omega)]; omega
  rw [w, T_mk (by omega), Option.bind_some]
  have key := loop_inv (body := fun s : List Int × Int => spec_l6Succ.b0 g false s.1 s.2) (fun s => ∃ (k : Nat) (σ : Nat → Nat), s.2 = k ∧ s.1 = tN (8 * g.states.toNat) σ ∧ k ≤ g.edges.length ∧ (∀ i, σ i < 2 ^ g.states.toNat) ∧ ∀ i t, (σ i).testBit t = true ↔ ∃ j, j < k ∧ 8 * (g.edges.getD j default).from_.toNat + (g.edges.getD j default).letter.toNat = i ∧ (g.edges.getD j default).to_.toNat = t) (fun s => g.edges.length - s.2.toNat) (fun r => ∃ σ : Nat → Nat, r = tN (8 * g.states.toNat) σ ∧ (∀ i, σ i < 2 ^ g.states.toNat) ∧ ∀ i t, (σ i).testBit t = true ↔ ∃ e ∈ g.edges, 8 * e.from_.toNat + e.letter.toNat = i ∧ e.to_.toNat = t) (by
    rintro ⟨y, k'⟩ ⟨k, σ, e1, e2, hk, hb, hT⟩
    dsimp only at e1 e2 ⊢
    subst e1 e2
    unfold spec_l6Succ.b0
    by_cases hlt : k < g.edges.length
    · right
      obtain ⟨⟨f1, f2⟩, ⟨t1, t2⟩, ⟨l1, l2⟩, _⟩ := h.edge _ (gedge_mem hlt)
      generalize he : g.edges.getD k default = e at f1 f2 t1 t2 l1 l2
      have hi : 8 * e.from_.toNat + e.letter.toNat < 8 * g.states.toNat := by omega
      have w1 : W (W (8 * e.from_) + e.letter) = ((8 * e.from_.toNat + e.letter.toNat : Nat) : Int) := by
        rw [show W (8 * e.from_) = 8 * e.from_ from W_eq (by omega) (by omega), W, W_eq (by omega) (by omega)]; omega
      have hp : 2 ^ e.to_.toNat < 2 ^ g.states.toNat := Nat.pow_lt_pow_right (by omega) (by omega)
      rw [if_pos (by omega), ix_nat hlt, Option.bind_some, he, if_neg (by simp), w1, T_ix hi, Option.bind_some, l1Bit_eq (by omega), Option.bind_some, T_ck hi, Option.bind_some, or_lt31 (by omega) (hb _) hp, T_set, WN (by omega)]
      refine ⟨_, rfl, ⟨k + 1, fun i => if i = 8 * e.from_.toNat + e.letter.toNat then σ (8 * e.from_.toNat + e.letter.toNat) ||| 2 ^ e.to_.toNat else σ i, rfl, T_congr fun i _ => by dsimp only; split <;> rfl, hlt, fun i => ?_, fun i t => ?_⟩, by dsimp only; omega⟩
      · dsimp only
        split
        · exact or_lt' (hb _) hp
        · exact hb i
      · dsimp only
        by_cases c : i = 8 * e.from_.toNat + e.letter.toNat
        · rw [if_pos c, bit_or, hT]
          constructor
          · rintro (⟨j, hj, g1, g2⟩ | g1)
            · exact ⟨j, by omega, by omega, g2⟩
            · exact ⟨k, by omega, by rw [he]; exact c.symm, by rw [he]; exact g1⟩
          · rintro ⟨j, hj, g1, g2⟩
            by_cases ej : j = k
            · subst ej; rw [he] at g2; exact .inr g2
            · exact .inl ⟨j, by omega, by omega, g2⟩
        · rw [if_neg c, hT]
          constructor
          · rintro ⟨j, hj, g1, g2⟩; exact ⟨j, by omega, g1, g2⟩
          · rintro ⟨j, hj, g1, g2⟩
            by_cases ej : j = k
            · subst ej; rw [he] at g1; exact absurd g1.symm c
            · exact ⟨j, by omega, g1, g2⟩
    · left
      rw [if_neg (by omega)]
      refine ⟨_, rfl, σ, rfl, hb, fun i t => ?_⟩
      rw [hT]
      constructor
      · rintro ⟨j, hj, g1, g2⟩; exact ⟨_, gedge_mem (by omega), g1, g2⟩
      · rintro ⟨e, he, g1, g2⟩
        obtain ⟨j, hj, rfl⟩ := mem_gedge he
        exact ⟨j, by omega, g1, g2⟩) (s := (tN (8 * g.states.toNat) fun _ => 0, 0)) ⟨0, fun _ => 0, rfl, rfl, Nat.zero_le _, fun _ => Nat.two_pow_pos _, fun i t => ⟨fun x => (by rw [Nat.zero_testBit] at x; cases x), fun ⟨j, hj, _⟩ => absurd hj (by omega)⟩⟩
  obtain ⟨r, e1, σ, rfl, h1, h2⟩ := key
  have e1' : loop (fun s : List Int × Int => spec_l6Succ.b0 g false s.1 s.2) (T (8 * g.states.toNat) fun _ => (0 : Int), 0) = some (tN (8 * g.states.toNat) σ) := e1
  rw [e1', Option.bind_some]
  exact ⟨σ, rfl, h1, h2⟩
/-- One step from a set by a letter. -/
theorem step_ok {S : Nat} (hS : 1 ≤ S ∧ S ≤ 31) {σ : Nat → Nat} (hσ : ∀ i, σ i < 2 ^ S) {x l : Nat} (hx : x < 2 ^ S) (hl : l ≤ 7) : ∃ r, spec_l6Step (tN (8 * S) σ) (x : Int) (l : Int) = some ((r : Nat) : Int) ∧ r < 2 ^ S ∧ ∀ t, r.testBit t = true ↔ ∃ s, s < S ∧ x.testBit s = true ∧ (σ (8 * s + l)).testBit t = true := by
  unfold spec_l6Step
  have key := loop_inv (body := fun s : Int × Int => spec_l6Step.b0 (tN (8 * S) σ) (x : Int) (l : Int) s.1 s.2) (fun s => ∃ (k r : Nat), s.2 = k ∧ s.1 = r ∧ k ≤ S ∧ r < 2 ^ S ∧ ∀ t, r.testBit t = true ↔ ∃ s, s < k ∧ x.testBit s = true ∧ (σ (8 * s + l)).testBit t = true) (fun s => S - s.2.toNat) (fun q => ∃ r : Nat, q = r ∧ r < 2 ^ S ∧ ∀ t, r.testBit t = true ↔ ∃ s, s < S ∧ x.testBit s = true ∧ (σ (8 * s + l)).testBit t = true) (by
    rintro ⟨q, k'⟩ ⟨k, r, e1, e2, hk, hr, hT⟩
    dsimp only at e1 e2 ⊢
    subst e1 e2
    unfold spec_l6Step.b0
    have w : W (8 * (k : Int)) = ((8 * k : Nat) : Int) := by rw [W, W_eq (by omega) (by omega)]; omega
    rw [w, T_len]
    by_cases hlt : k < S
    · right
      have w2 : W (((8 * k : Nat) : Int) + (l : Int)) = ((8 * k + l : Nat) : Int) := by rw [W, W_eq (by omega) (by omega)]; omega
      rw [if_pos (by omega), l1Has_eq (lt31 hS.2 hx) (by omega), Option.bind_some, Int.toNat_natCast, WN (by omega)]
      by_cases c : x.testBit k = true
      · rw [if_pos c, w2, T_ix (by omega), Option.bind_some, or_lt31 hS.2 hr (hσ _)]
        refine ⟨_, rfl, ⟨k + 1, r ||| σ (8 * k + l), rfl, rfl, hlt, or_lt' hr (hσ _), fun t => ?_⟩, by dsimp only; omega⟩
        rw [Nat.testBit_or, Bool.or_eq_true, hT]
        constructor
        · rintro (⟨s, hs, g⟩ | g)
          · exact ⟨s, by omega, g⟩
          · exact ⟨k, by omega, c, g⟩
        · rintro ⟨s, hs, g⟩
          by_cases e : s = k
          · subst e; exact .inr g.2
          · exact .inl ⟨s, by omega, g⟩
      · rw [if_neg c]
        refine ⟨_, rfl, ⟨k + 1, r, rfl, rfl, hlt, hr, fun t => ?_⟩, by dsimp only; omega⟩
        rw [hT]
        constructor
        · rintro ⟨s, hs, g⟩; exact ⟨s, by omega, g⟩
        · rintro ⟨s, hs, g⟩
          by_cases e : s = k
          · subst e; exact absurd g.1 c
          · exact ⟨s, by omega, g⟩
    · left
      rw [if_neg (by omega)]
      have : k = S := by omega
      subst this
      exact ⟨_, rfl, r, rfl, hr, hT⟩) (s := ((0 : Int), (0 : Int))) ⟨0, 0, rfl, rfl, Nat.zero_le _, Nat.two_pow_pos _, fun t => ⟨fun x => (by rw [Nat.zero_testBit] at x; cases x), fun ⟨j, hj, _⟩ => absurd hj (by omega)⟩⟩
  obtain ⟨q, e1, r, rfl, h1, h2⟩ := key
  rw [e1, Option.bind_some]
  exact ⟨r, rfl, h1, h2⟩
/-- The steps between points. -/
def adjW (g : TGen) (w : TWord) (x : Nat) : List Nat := (g.edges.filter fun e => decide (e.letter.toNat = letN w (x / g.states.toNat) ∧ e.from_.toNat = x % g.states.toNat)).map fun e => nxN w (x / g.states.toNat) * g.states.toNat + e.to_.toNat
theorem pt_div {S p s : Nat} (hs : s < S) : (p * S + s) / S = p := by rw [Nat.mul_comm, Nat.mul_add_div (by omega), Nat.div_eq_of_lt hs, Nat.add_zero]
theorem pt_mod {S p s : Nat} (hs : s < S) : (p * S + s) % S = s := by rw [Nat.mul_comm, Nat.mul_add_mod, Nat.mod_eq_of_lt hs]
theorem pt_lt {n S p s : Nat} (hp : p < n) (hs : s < S) : p * S + s < n * S := by
  have : (p + 1) * S ≤ n * S := Nat.mul_le_mul_right S hp
  rw [Nat.succ_mul] at this; omega
theorem pt_of {n S x : Nat} (hx : x < n * S) : 0 < S ∧ x / S < n ∧ x % S < S ∧ x = x / S * S + x % S := by
  have hS : 0 < S := by
    rcases Nat.eq_zero_or_pos S with h | h
    · subst h; simp at hx
    · exact h
  refine ⟨hS, Nat.div_lt_of_lt_mul (by rw [Nat.mul_comm]; exact hx), Nat.mod_lt _ hS, ?_⟩
  rw [Nat.mul_comm]; exact (Nat.div_add_mod x S).symm
theorem adjW_mem {g : TGen} {w : TWord} {p s y : Nat} (hs : s < g.states.toNat) : y ∈ adjW g w (p * g.states.toNat + s) ↔ ∃ e ∈ g.edges, e.letter.toNat = letN w p ∧ e.from_.toNat = s ∧ y = nxN w p * g.states.toNat + e.to_.toNat := by
  unfold adjW
  rw [pt_div hs, pt_mod hs, List.mem_map]
  constructor
  · rintro ⟨e, he, rfl⟩
    rw [List.mem_filter, decide_eq_true_eq] at he
    exact ⟨e, he.1, he.2.1, he.2.2, rfl⟩
  · rintro ⟨e, he, h1, h2, rfl⟩
    exact ⟨e, by rw [List.mem_filter, decide_eq_true_eq]; exact ⟨he, h1, h2⟩, rfl⟩
theorem adjW_lt {g : TGen} (h : GW g) {w : TWord} (hw : WOk w) : ∀ x, x < plN w * g.states.toNat → ∀ y ∈ adjW g w x, y < plN w * g.states.toNat := by
  intro x hx y hy
  obtain ⟨hS, hp, hs, e⟩ := pt_of hx
  rw [e] at hy
  obtain ⟨e, he, _, _, rfl⟩ := (adjW_mem hs).mp hy
  exact pt_lt (nxN_lt hw hp) (by have := h.edge e he; omega)
theorem sum_set_lt {f : Int → Nat} : ∀ (L : List Int) (i : Nat) (v : Int), i < L.length → f (L.getD i default) < f v → (L.map f).sum < ((L.set i v).map f).sum
  | [], i, v, h, _ => absurd h (by simp)
  | x :: L, 0, v, _, h => by simp at h ⊢; omega
  | x :: L, i + 1, v, hi, h => by
    have := sum_set_lt L i v (by simpa using hi) (by simpa using h)
    simp only [List.set_cons_succ, List.map_cons, List.sum_cons]; omega
/-- How many points are in the sets. -/
def totW (S : Nat) (L : List Int) : Nat := (L.map fun x => card S x.toNat).sum
theorem totW_le (S : Nat) : ∀ L : List Int, totW S L ≤ L.length * S
  | [] => by simp [totW]
  | x :: L => by
    have := totW_le S L
    have hc := card_le S x.toNat
    unfold totW at *
    simp only [List.map_cons, List.sum_cons, List.length_cons, Nat.succ_mul]; omega
/-- What is in sets is reached from what was there. -/
def SoundW (g : TGen) (w : TWord) (src o : Nat → Nat) : Prop := ∀ p t, p < plN w → (o p).testBit t = true → ∃ p0 s0, p0 < plN w ∧ (src p0).testBit s0 = true ∧ Rch (adjW g w) (p0 * g.states.toNat + s0) (p * g.states.toNat + t)
structure PassW (g : TGen) (w : TWord) (σ src o0 : Nat → Nat) (k : Nat) (o : Nat → Nat) (b : Bool) : Prop where
  lt : ∀ i, o i < 2 ^ g.states.toNat
  le : ∀ i t, (o0 i).testBit t = true → (o i).testBit t = true
  snd : SoundW g w src o
  no : b = false → (∀ i, i < plN w → o i = o0 i) ∧ ∀ p, p < k → ∀ s t, s < g.states.toNat → (o0 p).testBit s = true → (σ (8 * s + letN w p)).testBit t = true → (o0 (nxN w p)).testBit t = true
  yes : b = true → totW g.states.toNat (tN (plN w) o0) < totW g.states.toNat (tN (plN w) o)
theorem card_lt_or {k a b : Nat} (ha : a < 2 ^ k) (hb : b < 2 ^ k) (h : a ||| b ≠ a) : card k a < card k (a ||| b) := card_or ha hb h
theorem pass_ok {g : TGen} (h : GW g) {w : TWord} (hw : WOk w) {σ src o0 : Nat → Nat} (hσ : ∀ i, σ i < 2 ^ g.states.toNat) (hσ' : ∀ i t, (σ i).testBit t = true ↔ ∃ e ∈ g.edges, 8 * e.from_.toNat + e.letter.toNat = i ∧ e.to_.toNat = t) (hlt : ∀ i, o0 i < 2 ^ g.states.toNat) (hsnd : SoundW g w src o0) :
    ∃ (o : Nat → Nat) (b : Bool), loop (fun s : List Int × Bool × Int => spec_l6From.b1 w (tN (8 * g.states.toNat) σ) s.1 s.2.1 s.2.2) (tN (plN w) o0, false, 0) = some (tN (plN w) o, b) ∧ PassW g w σ src o0 (plN w) o b := by
  have hs := h.sts
  have hw1 := hw.stem
  have hw2 := hw.loop
  have hpl : plN w ≤ 80 := by unfold plN; omega
  have key := loop_inv (body := fun s : List Int × Bool × Int => spec_l6From.b1 w (tN (8 * g.states.toNat) σ) s.1 s.2.1 s.2.2) (fun s => ∃ (k : Nat) (o : Nat → Nat), s.2.2 = k ∧ s.1 = tN (plN w) o ∧ k ≤ plN w ∧ PassW g w σ src o0 k o s.2.1) (fun s => plN w - s.2.2.toNat) (fun r => ∃ o : Nat → Nat, r.1 = tN (plN w) o ∧ PassW g w σ src o0 (plN w) o r.2) (by
    rintro ⟨y, b, k'⟩ ⟨k, o, e1, e2, hk, hP⟩
    dsimp only at e1 e2 hP ⊢
    subst e1 e2
    unfold spec_l6From.b1
    rw [T_len]
    by_cases hlt : k < plN w
    · right
      have hq := nxN_lt hw hlt
      obtain ⟨r, er, hr, hrb⟩ := step_ok (S := g.states.toNat) (by omega) hσ (hP.lt k) (letN_le hw hlt)
      rw [if_pos (by omega), l6After_eq hw hlt, T_ix hq, Option.bind_some, T_ix hlt, Option.bind_some, l3At_eq hw hlt, Option.bind_some, er, Option.bind_some, Option.bind_some, or_lt31 (by omega) (hP.lt _) hr, WN (by omega)]
      by_cases c : (o (nxN w k)) ||| r = o (nxN w k)
      · rw [if_neg (by rw [c]; simp)]
        refine ⟨_, rfl, ⟨k + 1, o, rfl, rfl, hlt, ⟨hP.lt, hP.le, hP.snd, fun hb => ?_, hP.yes⟩⟩, by dsimp only; omega⟩
        obtain ⟨n1, n2⟩ := hP.no hb
        refine ⟨n1, fun p hp s t hs' g1 g2 => ?_⟩
        by_cases e : p = k
        · subst e
          have : r.testBit t = true := (hrb t).mpr ⟨s, hs', by rw [n1 _ hlt]; exact g1, g2⟩
          have h2 : ((o (nxN w p)) ||| r).testBit t = true := by rw [Nat.testBit_or, this, Bool.or_true]
          rw [c, n1 _ hq] at h2; exact h2
        · exact n2 p (by omega) s t hs' g1 g2
      · rw [if_pos (by omega), ck_nat hq, Option.bind_some, T_set]
        have ho : tN (plN w) (fun i => if i = nxN w k then o (nxN w k) ||| r else o i) = T (plN w) fun i => if i = nxN w k then ((o (nxN w k) ||| r : Nat) : Int) else (o i : Int) := T_congr fun i _ => by dsimp only; split <;> rfl
        refine ⟨_, rfl, ⟨k + 1, fun i => if i = nxN w k then o (nxN w k) ||| r else o i, rfl, ho.symm, hlt, ⟨fun i => ?_, fun i t g1 => ?_, fun p t hp g1 => ?_, fun hb => (by cases hb), fun _ => ?_⟩⟩, by dsimp only; omega⟩
        · split
          · exact or_lt' (hP.lt _) hr
          · exact hP.lt i
        · have := hP.le i t g1
          split
          · rename_i e; rw [← e, Nat.testBit_or, this, Bool.true_or]
          · exact this
        · split at g1
          · rename_i e
            rw [Nat.testBit_or, Bool.or_eq_true] at g1
            rcases g1 with g1 | g1
            · exact hP.snd p t hp (by rw [e]; exact g1)
            · obtain ⟨s, hs', g2, g3⟩ := (hrb t).mp g1
              obtain ⟨p0, s0, h0, h1, h2⟩ := hP.snd k s hlt g2
              refine ⟨p0, s0, h0, h1, h2.snoc ?_⟩
              obtain ⟨e', he, i1, i2⟩ := (hσ' _ _).mp g3
              have hl := h.edge e' he
              have hl8 := h.lets
              have hll := letN_le hw hlt
              rw [adjW_mem hs']
              exact ⟨e', he, by omega, by omega, by rw [e, i2]⟩
          · exact hP.snd p t hp g1
        · have hlt2 : totW g.states.toNat (tN (plN w) o) < totW g.states.toNat ((tN (plN w) o).set (nxN w k) ((o (nxN w k) ||| r : Nat) : Int)) := by
            unfold totW
            refine sum_set_lt _ _ _ (by rw [T_len]; exact hq) ?_
            rw [T_get hq, Int.toNat_natCast, Int.toNat_natCast]
            exact card_lt_or (hP.lt _) hr c
          rw [T_set] at hlt2
          rw [ho]
          cases hb : b with
          | false =>
            have n1 := (hP.no hb).1
            have e0 : tN (plN w) o0 = tN (plN w) o := T_congr fun i hi => by rw [n1 i hi]
            rw [e0]; exact hlt2
          | true => exact Nat.lt_trans (hP.yes hb) hlt2
    · left
      rw [if_neg (by omega)]
      have : k = plN w := by omega
      subst this
      exact ⟨_, rfl, o, rfl, hP⟩) (s := (tN (plN w) o0, false, 0)) ⟨0, o0, rfl, rfl, Nat.zero_le _, ⟨hlt, fun _ _ x => x, hsnd, fun _ => ⟨fun _ _ => rfl, fun p hp => absurd hp (by omega)⟩, fun hb => (by cases hb)⟩⟩
  obtain ⟨⟨y, b⟩, e1, o, e2, hP⟩ := key
  dsimp only at e2 hP
  subst e2
  exact ⟨o, b, e1, hP⟩
/-- The sets of all that is reached. -/
theorem from_ok {g : TGen} (h : GW g) {w : TWord} (hw : WOk w) {σ src : Nat → Nat} (hσ : ∀ i, σ i < 2 ^ g.states.toNat) (hσ' : ∀ i t, (σ i).testBit t = true ↔ ∃ e ∈ g.edges, 8 * e.from_.toNat + e.letter.toNat = i ∧ e.to_.toNat = t) (hlt : ∀ i, src i < 2 ^ g.states.toNat) :
    ∃ o : Nat → Nat, spec_l6From (tN (8 * g.states.toNat) σ) w (tN (plN w) src) = some (tN (plN w) o) ∧ (∀ i, o i < 2 ^ g.states.toNat) ∧ ∀ p t, p < plN w → t < g.states.toNat → ((o p).testBit t = true ↔ ∃ p0 s0, p0 < plN w ∧ (src p0).testBit s0 = true ∧ Rch (adjW g w) (p0 * g.states.toNat + s0) (p * g.states.toNat + t)) := by
  have hs := h.sts
  have hw1 := hw.stem
  have hw2 := hw.loop
  have hpl : plN w ≤ 80 := by unfold plN; omega
  unfold spec_l6From
  rw [app_small (by rw [T_len]; simp; omega) (by decide), List.nil_append, Option.bind_some]
  have hbit : ∀ {x t : Nat}, x < 2 ^ g.states.toNat → x.testBit t = true → t < g.states.toNat := fun {x t} hx ht => by
    by_cases c : t < g.states.toNat
    · exact c
    · rw [Nat.testBit_lt_two_pow (Nat.lt_of_lt_of_le hx (Nat.pow_le_pow_right (by omega) (by omega)))] at ht; cases ht
  have key := loop_inv (body := fun s : List Int × Bool => spec_l6From.b0 w (tN (8 * g.states.toNat) σ) s.1 s.2) (fun s => ∃ o : Nat → Nat, s.1 = tN (plN w) o ∧ (∀ i, o i < 2 ^ g.states.toNat) ∧ (∀ i t, i < plN w → (src i).testBit t = true → (o i).testBit t = true) ∧ SoundW g w src o ∧ (s.2 = false → ∀ p, p < plN w → ∀ s t, s < g.states.toNat → (o p).testBit s = true → (σ (8 * s + letN w p)).testBit t = true → (o (nxN w p)).testBit t = true)) (fun s => (if s.2 = true then 1 else 0) + (plN w * g.states.toNat - totW g.states.toNat s.1)) (fun r => ∃ o : Nat → Nat, r = tN (plN w) o ∧ (∀ i, o i < 2 ^ g.states.toNat) ∧ ∀ p t, p < plN w → t < g.states.toNat → ((o p).testBit t = true ↔ ∃ p0 s0, p0 < plN w ∧ (src p0).testBit s0 = true ∧ Rch (adjW g w) (p0 * g.states.toNat + s0) (p * g.states.toNat + t))) (by
    rintro ⟨y, b⟩ ⟨o, e1, o1, o2, o3, o4⟩
    dsimp only at e1 o4 ⊢
    subst e1
    unfold spec_l6From.b0
    cases b with
    | true =>
      right
      obtain ⟨o', b', e2, hP⟩ := pass_ok h hw hσ hσ' o1 o3
      rw [if_pos rfl, e2, Option.bind_some]
      have hle := totW_le g.states.toNat (tN (plN w) o')
      have hle0 := totW_le g.states.toNat (tN (plN w) o)
      rw [T_len] at hle hle0
      refine ⟨_, rfl, ⟨o', rfl, hP.lt, fun i t hi x => hP.le i t (o2 i t hi x), hP.snd, fun hb => ?_⟩, ?_⟩
      · obtain ⟨n1, n2⟩ := hP.no hb
        intro p hp s t hs' g1 g2
        rw [n1 _ (nxN_lt hw hp)]
        exact n2 p hp s t hs' (by rw [← n1 p hp]; exact g1) g2
      · dsimp only
        cases b' with
        | true =>
          have := hP.yes rfl
          simp only [if_true]; omega
        | false =>
          have n1 := (hP.no rfl).1
          have e0 : tN (plN w) o' = tN (plN w) o := T_congr fun i hi => by rw [n1 i hi]
          rw [e0]; simp
    | false =>
      left
      rw [if_neg (by simp)]
      refine ⟨_, rfl, o, rfl, o1, fun p t hp ht => ⟨fun x => o3 p t hp x, ?_⟩⟩
      rintro ⟨p0, s0, h0, h1, h2⟩
      have hs0 := hbit (hlt _) h1
      have gen : ∀ a c, Rch (adjW g w) a c → a < plN w * g.states.toNat → (o (a / g.states.toNat)).testBit (a % g.states.toNat) = true → (o (c / g.states.toNat)).testBit (c % g.states.toNat) = true := by
        intro a c hR
        induction hR with
        | refl => intro _ x; exact x
        | @head a b c hab _ ih =>
          intro ha hb
          refine ih (adjW_lt h hw a ha b hab) ?_
          obtain ⟨hS, hp', hs', e⟩ := pt_of ha
          rw [e] at hab
          obtain ⟨e', he, i1, i2, rfl⟩ := (adjW_mem hs').mp hab
          have ht' := h.edge e' he
          rw [pt_div (by omega), pt_mod (by omega)]
          refine o4 rfl _ hp' _ _ hs' hb ?_
          rw [hσ']
          exact ⟨e', he, by omega, rfl⟩
      have := gen _ _ h2 (pt_lt h0 hs0) (by rw [pt_div hs0, pt_mod hs0]; exact o2 _ _ h0 h1)
      rw [pt_div ht, pt_mod ht] at this
      exact this) (s := (tN (plN w) src, true)) ⟨src, rfl, hlt, fun _ _ _ x => x, fun p t hp x => ⟨p, t, hp, x, .refl _⟩, fun hb => (by cases hb)⟩
  obtain ⟨r, e1, o, rfl, h1, h2⟩ := key
  rw [e1, Option.bind_some]
  exact ⟨o, rfl, h1, h2⟩
end Go.Proofs.Ythdclobnmicdaaa
end

/- The rings of points, by the reference; what an automaton of many marks takes. -/
section
namespace Go.Proofs.Ythdclobnmicdaaa
open Go Go.RowKit E
set_option linter.unusedVariables false

/-- Reached from the beginning. -/
def Begun (g : TGen) (w : TWord) (x : Nat) : Prop := ∃ s, g.start.toNat.testBit s = true ∧ Rch (adjW g w) s x
theorem Begun.mut {g : TGen} {w : TWord} {x y : Nat} (h : Begun g w x) (k : Mut (adjW g w) y x) : Begun g w y := by
  obtain ⟨s, h1, h2⟩ := h
  exact ⟨s, h1, h2.trans k.2⟩
/-- The least points of rings, up to some point. -/
structure CompI (g : TGen) (w : TWord) (N x : Nat) (f : Nat → Int) : Prop where
  val : ∀ y, y < N → (f y = -1 ∧ (Begun g w y → ∀ z, z < x → ¬ Mut (adjW g w) z y)) ∨ ∃ z : Nat, z < x ∧ f y = (z : Int) ∧ Begun g w y ∧ Mut (adjW g w) z y ∧ ∀ z', z' < z → ¬ Mut (adjW g w) z' y
theorem CompI.skip {g : TGen} {w : TWord} {N x : Nat} {f : Nat → Int} (h : CompI g w N x f) (hx : x < N) (k : 0 ≤ f x ∨ ¬ Begun g w x) : CompI g w N (x + 1) f := ⟨fun y hy => by
  rcases h.val y hy with ⟨e, h1⟩ | ⟨z, hz, e⟩
  · refine .inl ⟨e, fun hb z hz => ?_⟩
    by_cases c : z = x
    · subst c
      intro hm
      have hbx := hb.mut hm
      rcases k with k | k
      · rcases h.val z hx with ⟨e2, _⟩ | ⟨z2, hz2, _, _, hm2, _⟩
        · omega
        · exact h1 hb z2 hz2 (hm2.trans hm)
      · exact k hbx
    · exact h1 hb z (by omega)
  · exact .inr ⟨z, by omega, e⟩⟩
open Classical in
noncomputable def compG (g : TGen) (w : TWord) (x k : Nat) (f : Nat → Int) : Nat → Int := fun y => if x ≤ y ∧ y < k ∧ Mut (adjW g w) x y then (x : Int) else f y
theorem CompI.take {g : TGen} {w : TWord} {N x : Nat} {f : Nat → Int} (h : CompI g w N x f) (hx : x < N) (k : f x = -1) (hb : Begun g w x) : CompI g w N (x + 1) (compG g w x N f) := ⟨fun y hy => by
  have hn : ∀ z, z < x → ¬ Mut (adjW g w) z x := by
    rcases h.val x hx with ⟨_, h1⟩ | ⟨z, _, e, _⟩
    · exact h1 hb
    · omega
  unfold compG
  by_cases c : x ≤ y ∧ y < N ∧ Mut (adjW g w) x y
  · rw [if_pos c]
    exact .inr ⟨x, by omega, rfl, hb.mut c.2.2.symm, c.2.2, fun z' hz' hm => hn z' hz' (hm.trans c.2.2.symm)⟩
  · rw [if_neg c]
    rcases h.val y hy with ⟨e, h1⟩ | ⟨z, hz, e⟩
    · refine .inl ⟨e, fun hb z hz => ?_⟩
      by_cases cz : z = x
      · subst cz
        intro hm
        by_cases cy : z ≤ y
        · exact c ⟨cy, hy, hm⟩
        · exact hn y (by omega) hm.symm
      · exact h1 hb z (by omega)
    · exact .inr ⟨z, by omega, e⟩⟩
theorem CompI.end_ {g : TGen} {w : TWord} {N : Nat} {f : Nat → Int} (h : CompI g w N N f) : ∀ y, y < N → (f y = -1 ∧ ¬ Begun g w y) ∨ ∃ z : Nat, z < N ∧ f y = (z : Int) ∧ Begun g w y ∧ Mut (adjW g w) z y ∧ ∀ z', z' < z → ¬ Mut (adjW g w) z' y := fun y hy => by
  rcases h.val y hy with ⟨e, h1⟩ | h2
  · exact .inl ⟨e, fun hb => h1 hb y hy (.refl y)⟩
  · exact .inr h2
/-- Points of one ring have the same number, others have not. -/
theorem CompI.same {g : TGen} {w : TWord} {N : Nat} {f : Nat → Int} (h : CompI g w N N f) {x y : Nat} (hx : x < N) (hy : y < N) : (0 ≤ f x ∧ f x = f y) ↔ Begun g w x ∧ Mut (adjW g w) x y := by
  rcases h.end_ x hx with ⟨e1, b1⟩ | ⟨z, hz, e1, b1, m1, n1⟩
  · exact ⟨fun k => absurd k.1 (by omega), fun k => absurd k.1 b1⟩
  · constructor
    · rintro ⟨_, e⟩
      rcases h.end_ y hy with ⟨e2, b2⟩ | ⟨z2, hz2, e2, b2, m2, n2⟩
      · omega
      · have : z = z2 := by omega
        subst this
        exact ⟨b1, m1.symm.trans m2⟩
    · rintro ⟨_, m⟩
      refine ⟨by omega, ?_⟩
      have b2 : Begun g w y := b1.mut m.symm
      rcases h.end_ y hy with ⟨e2, b2'⟩ | ⟨z2, hz2, e2, _, m2, n2⟩
      · exact absurd b2 b2'
      · have c1 : ¬ z < z2 := fun c => n2 z c (m1.trans m)
        have c2 : ¬ z2 < z := fun c => n1 z2 c (m2.trans m.symm)
        omega
theorem qm {S x : Nat} (hS : 1 ≤ S ∧ S ≤ 31) (hx : x ≤ 1000000) : quo .i64 (x : Int) (S : Int) = ((x / S : Nat) : Int) ∧ Int.tmod (x : Int) (S : Int) = ((x % S : Nat) : Int) := by
  have h3 := Nat.div_le_self x S
  refine ⟨?_, rfl⟩
  unfold quo
  rw [show ((x : Int).tdiv (S : Int)) = ((x / S : Nat) : Int) from rfl]
  generalize x / S = d at h3 ⊢
  exact W_eq (by omega) (by omega)
theorem bit_lt' {x k t : Nat} (hx : x < 2 ^ k) (ht : x.testBit t = true) : t < k := by
  by_cases c : t < k
  · exact c
  · rw [Nat.testBit_lt_two_pow (Nat.lt_of_lt_of_le hx (Nat.pow_le_pow_right (by omega) (by omega)))] at ht; cases ht
/-- What is reached from one point. -/
def IntoI (g : TGen) (w : TWord) (x : Nat) (o : Nat → Nat) : Prop := (∀ i, o i < 2 ^ g.states.toNat) ∧ ∀ y, y < plN w * g.states.toNat → ((o (y / g.states.toNat)).testBit (y % g.states.toNat) = true ↔ Begun g w x ∧ Rch (adjW g w) x y)
theorem comps_ok {g : TGen} (h : GW g) {w : TWord} (hw : WOk w) : ∃ f : Nat → Int, spec_l6Comps g w = some (T (plN w * g.states.toNat) f) ∧ CompI g w (plN w * g.states.toNat) (plN w * g.states.toNat) f := by
  have hs := h.sts
  have hst := h.start
  have hw1 := hw.stem
  have hw2 := hw.loop
  have hw3 := hw.one
  have hpl : 1 ≤ plN w ∧ plN w ≤ 80 := by unfold plN; omega
  have hN : plN w * g.states.toNat ≤ 80 * 31 := Nat.mul_le_mul (by omega) (by omega)
  have hS : 1 ≤ g.states.toNat ∧ g.states.toNat ≤ 31 := by omega
  have eS : g.states = ((g.states.toNat : Nat) : Int) := by omega
  obtain ⟨σ, e1, hσ, hσ'⟩ := succ_ok h
  unfold spec_l6Comps
  have hck : ck (0 : Int) (T (plN w) fun _ => (0 : Int)).length = some 0 := T_ck (k := 0) (by omega)
  rw [e1, Option.bind_some, l6Places_eq hw, T_mk (by omega), Option.bind_some, hck, Option.bind_some, T_set]
  have es : T (plN w) (fun i => if i = 0 then g.start else (0 : Int)) = tN (plN w) fun i => if i = 0 then g.start.toNat else 0 := T_congr fun i _ => by dsimp only; split <;> omega
  obtain ⟨bg, e2, hbg, hbg'⟩ := from_ok h hw hσ hσ' (src := fun i => if i = 0 then g.start.toNat else 0) (fun i => by (try dsimp only); split; exact (by omega : g.start.toNat < 2 ^ g.states.toNat); exact Nat.two_pow_pos _)
  rw [es, e2, Option.bind_some]
  have begun : ∀ x, x < plN w * g.states.toNat → ((bg (x / g.states.toNat)).testBit (x % g.states.toNat) = true ↔ Begun g w x) := fun x hx => by
    obtain ⟨_, h1, h2, h3⟩ := pt_of hx
    rw [hbg' _ _ h1 h2, ← h3]
    constructor
    · rintro ⟨p0, s0, h0, k1, k2⟩
      by_cases c : p0 = 0
      · subst c; rw [if_pos rfl] at k1; exact ⟨s0, k1, by simpa using k2⟩
      · rw [if_neg c, Nat.zero_testBit] at k1; cases k1
    · rintro ⟨s, k1, k2⟩
      exact ⟨0, s, by omega, by rw [if_pos rfl]; exact k1, by simpa using k2⟩
  have wN : W ((plN w : Int) * g.states) = ((plN w * g.states.toNat : Nat) : Int) := by
    rw [eS, ← Int.natCast_mul, W, W_eq (by omega) (by omega)]; simp
  -- the first loop
  have k1 := loop_inv (body := fun s : List Int × List (List Int) × Int => spec_l6Comps.b2 w g (tN (plN w) bg) (tN (8 * g.states.toNat) σ) s.1 s.2.1 s.2.2) (fun s => ∃ (x : Nat) (F : Nat → Nat → Nat), s.2.2 = x ∧ x ≤ plN w * g.states.toNat ∧ s.1 = T x (fun _ => (-1 : Int)) ∧ s.2.1 = T x (fun i => tN (plN w) (F i)) ∧ ∀ i, i < x → IntoI g w i (F i)) (fun s => plN w * g.states.toNat - s.2.2.toNat) (fun r => ∃ F : Nat → Nat → Nat, r.1 = T (plN w * g.states.toNat) (fun _ => (-1 : Int)) ∧ r.2 = T (plN w * g.states.toNat) (fun i => tN (plN w) (F i)) ∧ ∀ i, i < plN w * g.states.toNat → IntoI g w i (F i)) (by
    rintro ⟨y, ys, x'⟩ ⟨x, F, q1, hx, q2, q3, hF⟩
    dsimp only at q1 q2 q3 ⊢
    subst q1 q2 q3
    unfold spec_l6Comps.b2
    rw [l6Places_eq hw, wN]
    by_cases hlt : x < plN w * g.states.toNat
    · right
      obtain ⟨_, p1, p2, p3⟩ := pt_of hlt
      obtain ⟨d1, d2⟩ := qm hS (x := x) (by omega)
      rw [← eS] at d1 d2
      rw [if_pos (by omega), app_small (by rw [T_len]; simp; omega) (by decide), Option.bind_some, T_mk (by omega), Option.bind_some, decide_eq_true (by omega), chk_t, Option.bind_some, d1, T_ix p1, Option.bind_some, Option.bind_some, d2, l1Has_eq (lt31 hS.2 (hbg _)) (by omega), Option.bind_some, Int.toNat_natCast, WN (by omega)]
      have ea : T x (fun _ => (-1 : Int)) ++ [-1] = T (x + 1) (fun _ => (-1 : Int)) := T_snoc.symm
      rw [ea]
      have step : ∀ o : Nat → Nat, IntoI g w x o → ∃ F' : Nat → Nat → Nat, T x (fun i => tN (plN w) (F i)) ++ [tN (plN w) o] = T (x + 1) (fun i => tN (plN w) (F' i)) ∧ ∀ i, i < x + 1 → IntoI g w i (F' i) := fun o ho => by
        refine ⟨fun i => if i = x then o else F i, ?_, fun i hi => ?_⟩
        · rw [T_snoc]
          dsimp only
          rw [if_pos rfl]
          congr 1
          exact T_congr fun i hi => by rw [if_neg (by omega)]
        · dsimp only
          split
          · rename_i e; subst e; exact ho
          · exact hF i (by omega)
      by_cases c : (bg (x / g.states.toNat)).testBit (x % g.states.toNat) = true
      · have hb := (begun x hlt).mp c
        have hpw : 2 ^ (x % g.states.toNat) < 2 ^ g.states.toNat := Nat.pow_lt_pow_right (by omega) p2
        obtain ⟨o, eo, ho, ho'⟩ := from_ok h hw hσ hσ' (src := fun i => if i = x / g.states.toNat then 2 ^ (x % g.states.toNat) else 0) (fun i => by (try dsimp only); split; exact hpw; exact Nat.two_pow_pos _)
        have eo' : T (plN w) (fun i => if i = x / g.states.toNat then ((2 ^ (x % g.states.toNat) : Nat) : Int) else (0 : Int)) = tN (plN w) fun i => if i = x / g.states.toNat then 2 ^ (x % g.states.toNat) else 0 := T_congr fun i _ => by dsimp only; split <;> rfl
        rw [if_pos c, Option.bind_some, Option.bind_some, l1Bit_eq (by omega), Option.bind_some, Int.toNat_natCast, T_ck p1, Option.bind_some, T_set, eo', eo, Option.bind_some, app_small (by rw [T_len]; simp; omega) (by decide), Option.bind_some]
        obtain ⟨F', f1, f2⟩ := step o ⟨ho, fun y hy => by
          obtain ⟨_, r1, r2, r3⟩ := pt_of hy
          rw [ho' _ _ r1 r2, ← r3]
          constructor
          · rintro ⟨p0, s0, h0, j1, j2⟩
            by_cases cc : p0 = x / g.states.toNat
            · rw [if_pos cc, Nat.testBit_two_pow, decide_eq_true_eq] at j1
              subst cc; subst j1
              rw [← p3] at j2; exact ⟨hb, j2⟩
            · rw [if_neg cc, Nat.zero_testBit] at j1; cases j1
          · rintro ⟨_, j2⟩
            exact ⟨_, _, p1, by rw [if_pos rfl, Nat.testBit_two_pow, decide_eq_true_eq], by rw [← p3]; exact j2⟩⟩
        rw [f1]
        exact ⟨_, rfl, ⟨x + 1, F', rfl, hlt, rfl, rfl, f2⟩, by dsimp only; omega⟩
      · have hb : ¬ Begun g w x := fun hb => c ((begun x hlt).mpr hb)
        rw [if_neg c, app_small (by rw [T_len]; simp; omega) (by decide), Option.bind_some]
        obtain ⟨F', f1, f2⟩ := step (fun _ => 0) ⟨fun _ => Nat.two_pow_pos _, fun y hy => ⟨fun j => (by rw [Nat.zero_testBit] at j; cases j), fun j => absurd j.1 hb⟩⟩
        have f1' : T x (fun i => tN (plN w) (F i)) ++ [T (plN w) fun _ => (0 : Int)] = T (x + 1) (fun i => tN (plN w) (F' i)) := f1
        rw [f1']
        exact ⟨_, rfl, ⟨x + 1, F', rfl, hlt, rfl, rfl, f2⟩, by dsimp only; omega⟩
    · left
      rw [if_neg (by omega)]
      have : x = plN w * g.states.toNat := by omega
      subst this
      exact ⟨_, rfl, F, rfl, rfl, hF⟩) (s := ([], [], 0)) ⟨0, fun _ _ => 0, rfl, Nat.zero_le _, rfl, rfl, fun i hi => absurd hi (by omega)⟩
  obtain ⟨⟨r1, r2⟩, k1e, F, f1, f2, hF⟩ := k1
  dsimp only at f1 f2
  subst f1 f2
  rw [k1e, Option.bind_some]
  unfold spec_l6Comps.k0
  -- the second loop
  have k2 := loop_inv (body := fun s : List Int × Int => spec_l6Comps.b0 g (tN (plN w) bg) (T (plN w * g.states.toNat) (fun i => tN (plN w) (F i))) s.1 s.2) (fun s => ∃ (x : Nat) (f : Nat → Int), s.2 = x ∧ x ≤ plN w * g.states.toNat ∧ s.1 = T (plN w * g.states.toNat) f ∧ CompI g w (plN w * g.states.toNat) x f) (fun s => plN w * g.states.toNat - s.2.toNat) (fun r => ∃ f : Nat → Int, r = T (plN w * g.states.toNat) f ∧ CompI g w (plN w * g.states.toNat) (plN w * g.states.toNat) f) (by
    rintro ⟨y, x'⟩ ⟨x, f, q1, hx, q2, hI⟩
    dsimp only at q1 q2 ⊢
    subst q1 q2
    unfold spec_l6Comps.b0
    rw [T_len]
    by_cases hlt : x < plN w * g.states.toNat
    · right
      obtain ⟨_, p1, p2, p3⟩ := pt_of hlt
      obtain ⟨d1, d2⟩ := qm hS (x := x) (by omega)
      rw [← eS] at d1 d2
      rw [if_pos (by omega), T_ix hlt, Option.bind_some, bnd_eq, decide_eq_true (show g.states ≠ 0 by omega), chk_t, d1, d2]
      unfold spec_l6Comps.k2
      rw [WN (by omega)]
      by_cases c0 : f x ≥ 0
      · rw [decide_eq_true c0]
        simp only [Bool.not_true, whenO_f, Option.bind_some, Bool.true_or, if_true]
        exact ⟨_, rfl, ⟨x + 1, f, rfl, hlt, rfl, hI.skip hlt (.inl c0)⟩, by dsimp only; omega⟩
      · rw [decide_eq_false c0]
        simp only [Bool.not_false, whenO_t, Option.bind_some, T_ix p1, l1Has_eq (lt31 hS.2 (hbg _)) (show 0 ≤ ((x % g.states.toNat : Nat) : Int) ∧ ((x % g.states.toNat : Nat) : Int) ≤ 30 by omega), Int.toNat_natCast, Bool.false_or]
        by_cases c : (bg (x / g.states.toNat)).testBit (x % g.states.toNat) = true
        · have hb := (begun x hlt).mp c
          have hfx : f x = -1 := by
            rcases hI.val x hlt with ⟨e, _⟩ | ⟨z, _, e, _⟩
            · exact e
            · omega
          rw [c, if_neg (by simp)]
          have k3 := loop_inv (body := fun s : List Int × Int => spec_l6Comps.b1 (T (plN w * g.states.toNat) (fun i => tN (plN w) (F i))) (x : Int) g s.1 s.2) (fun s => ∃ k : Nat, s.2 = k ∧ x ≤ k ∧ k ≤ plN w * g.states.toNat ∧ s.1 = T (plN w * g.states.toNat) (compG g w x k f)) (fun s => plN w * g.states.toNat - s.2.toNat) (fun r => r = T (plN w * g.states.toNat) (compG g w x (plN w * g.states.toNat) f)) (by
            rintro ⟨y, k'⟩ ⟨k, q1, hk, hk2, q2⟩
            dsimp only at q1 q2 ⊢
            subst q1 q2
            unfold spec_l6Comps.b1
            rw [T_len]
            by_cases hkl : k < plN w * g.states.toNat
            · right
              obtain ⟨_, u1, u2, u3⟩ := pt_of hkl
              obtain ⟨v1, v2⟩ := qm hS (x := k) (by omega)
              rw [← eS] at v1 v2
              have hFx := hF x hlt
              have hFk := hF k hkl
              rw [if_pos (by omega), T_ix hlt, Option.bind_some, decide_eq_true (show g.states ≠ 0 by omega), chk_t, Option.bind_some, v1, T_ix u1, Option.bind_some, Option.bind_some, v2, l1Has_eq (lt31 hS.2 (hFx.1 _)) (by omega), Option.bind_some, Int.toNat_natCast, d1, d2, WN (by omega)]
              have nxt : ∀ v : Nat → Int, (∀ i, i < plN w * g.states.toNat → v i = compG g w x (k + 1) f i) → T (plN w * g.states.toNat) v = T (plN w * g.states.toNat) (compG g w x (k + 1) f) := fun v hv => T_congr hv
              by_cases c1 : (F x (k / g.states.toNat)).testBit (k % g.states.toNat) = true
              · rw [c1]
                simp only [whenO_t, T_ix hkl, Option.bind_some, T_ix p1, l1Has_eq (lt31 hS.2 (hFk.1 _)) (show 0 ≤ ((x % g.states.toNat : Nat) : Int) ∧ ((x % g.states.toNat : Nat) : Int) ≤ 30 by omega), Int.toNat_natCast, Bool.true_and]
                have r1 := ((hFx.2 k hkl).mp c1).2
                have hbk : Begun g w k := by obtain ⟨s, j1, j2⟩ := hb; exact ⟨s, j1, j2.trans r1⟩
                by_cases c2 : (F k (x / g.states.toNat)).testBit (x % g.states.toNat) = true
                · have r2 := ((hFk.2 x hlt).mp c2).2
                  rw [if_pos c2, ck_nat hkl, Option.bind_some, T_set]
                  refine ⟨_, rfl, ⟨k + 1, rfl, by omega, hkl, nxt _ fun i hi => ?_⟩, by dsimp only; omega⟩
                  unfold compG
                  by_cases ei : i = k
                  · subst ei; rw [if_pos rfl, if_pos ⟨hk, by omega, r1, r2⟩]
                  · rw [if_neg ei]
                    by_cases cc : x ≤ i ∧ i < k ∧ Mut (adjW g w) x i
                    · rw [if_pos cc, if_pos ⟨cc.1, by omega, cc.2.2⟩]
                    · rw [if_neg cc, if_neg (fun q => cc ⟨q.1, by omega, q.2.2⟩)]
                · rw [if_neg c2]
                  refine ⟨_, rfl, ⟨k + 1, rfl, by omega, hkl, nxt _ fun i hi => ?_⟩, by dsimp only; omega⟩
                  unfold compG
                  by_cases cc : x ≤ i ∧ i < k ∧ Mut (adjW g w) x i
                  · rw [if_pos cc, if_pos ⟨cc.1, by omega, cc.2.2⟩]
                  · rw [if_neg cc, if_neg (fun q => ?_)]
                    by_cases ei : i = k
                    · subst ei; exact c2 ((hFk.2 x hlt).mpr ⟨hbk, q.2.2.2⟩)
                    · exact cc ⟨q.1, by omega, q.2.2⟩
              · rw [Bool.eq_false_iff.mpr c1]
                simp only [whenO_f, Option.bind_some, Bool.false_and, Bool.false_eq_true, if_false]
                refine ⟨_, rfl, ⟨k + 1, rfl, by omega, hkl, nxt _ fun i hi => ?_⟩, by dsimp only; omega⟩
                unfold compG
                by_cases cc : x ≤ i ∧ i < k ∧ Mut (adjW g w) x i
                · rw [if_pos cc, if_pos ⟨cc.1, by omega, cc.2.2⟩]
                · rw [if_neg cc, if_neg (fun q => ?_)]
                  by_cases ei : i = k
                  · subst ei; exact c1 ((hFx.2 i hkl).mpr ⟨hb, q.2.2.1⟩)
                  · exact cc ⟨q.1, by omega, q.2.2⟩
            · left
              rw [if_neg (by omega)]
              have : k = plN w * g.states.toNat := by omega
              subst this
              exact ⟨_, rfl, rfl⟩) (s := (T (plN w * g.states.toNat) f, (x : Int))) ⟨x, rfl, Nat.le_refl _, hx, T_congr fun i hi => by unfold compG; rw [if_neg (by omega)]⟩
          obtain ⟨r, k3e, rfl⟩ := k3
          rw [k3e, Option.bind_some]
          exact ⟨_, rfl, ⟨x + 1, _, rfl, hlt, rfl, hI.take hlt hfx hb⟩, by dsimp only; omega⟩
        · have hb : ¬ Begun g w x := fun hb => c ((begun x hlt).mpr hb)
          rw [if_pos (by simp [c])]
          exact ⟨_, rfl, ⟨x + 1, f, rfl, hlt, rfl, hI.skip hlt (.inr hb)⟩, by dsimp only; omega⟩
    · left
      rw [if_neg (by omega)]
      have : x = plN w * g.states.toNat := by omega
      subst this
      exact ⟨_, rfl, f, rfl, hI⟩) (s := (T (plN w * g.states.toNat) fun _ => (-1 : Int), 0)) ⟨0, fun _ => -1, rfl, Nat.zero_le _, rfl, ⟨fun y hy => .inl ⟨rfl, fun _ z hz => absurd hz (by omega)⟩⟩⟩
  obtain ⟨r, k2e, f, rfl, hI⟩ := k2
  rw [k2e, Option.bind_some]
  exact ⟨f, rfl, hI⟩
end Go.Proofs.Ythdclobnmicdaaa
end

/- The graph of the points of a word. -/
section
namespace Go.Proofs.Ythdclobnmicdaaa
open Go Go.RowKit E
set_option linter.unusedVariables false

def stepE (w : TWord) (S p : Nat) (e : TGEdge) : Nat × Tstep := (p * S + e.from_.toNat, ⟨((nxN w p * S + e.to_.toNat : Nat) : Int), e.marks⟩)
def stepsP (w : TWord) (S : Nat) (es : List TGEdge) (p : Nat) : List (Nat × Tstep) := (es.filter fun e => decide (e.letter = (letN w p : Int))).map (stepE w S p)
def stepsW (w : TWord) (S : Nat) (es : List TGEdge) : List (Nat × Tstep) := (List.range (plN w)).flatMap (stepsP w S es)
theorem foldP (w : TWord) (S p : Nat) (es : List TGEdge) (g : List (List Tstep)) : es.foldl (fun g e => if e.letter = (letN w p : Int) then addG g (stepE w S p e) else g) g = (stepsP w S es p).foldl addG g := by
  unfold stepsP
  rw [List.foldl_map, List.foldl_filter]
  congr 1
  funext g e
  by_cases c : e.letter = (letN w p : Int)
  · rw [if_pos c, if_pos (by simpa using c)]
  · rw [if_neg c, if_neg (by simpa using c)]
theorem plN_le {w : TWord} (h : WOk w) : plN w ≤ 80 := by
  have := h.stem; have := h.loop
  unfold plN; omega
theorem pS_le {w : TWord} (h : WOk w) {S : Nat} (hS : S ≤ 31) : plN w * S ≤ 2480 := by
  have := Nat.mul_le_mul (plN_le h) hS
  omega
theorem points_row {g : TGen} (h : GW g) {w : TWord} (hw : WOk w) {p : Nat} (hp : p < plN w) {y : List (List Tstep)} {c : Nat} (hy : y.length = plN w * g.states.toNat) (hc : ∀ v, (y.getD v default).length ≤ c) (hcl : c ≤ 1000000) :
    loop (fun s : List (List Tstep) × Int => impl_pointsBy.b1 g.edges w (p : Int) g.states s.1 s.2) (y, 0) = some ((stepsP w g.states.toNat g.edges p).foldl addG y) ∧ ((stepsP w g.states.toNat g.edges p).foldl addG y).length = plN w * g.states.toNat ∧ ∀ v, (((stepsP w g.states.toNat g.edges p).foldl addG y).getD v default).length ≤ c + g.edges.length := by
  have hn := h.num
  have hs := h.sts
  have hpl := plN_le hw
  have hps := pS_le hw (S := g.states.toNat) (by omega)
  have key := fold_loop (body := fun s : List (List Tstep) × Int => impl_pointsBy.b1 g.edges w (p : Int) g.states s.1 s.2) g.edges (fun y e => if e.letter = (letN w p : Int) then addG y (stepE w g.states.toNat p e) else y) (fun k y => y.length = plN w * g.states.toNat ∧ ∀ v, (y.getD v default).length ≤ c + k) (fun k y hk hI => ?_) (fun y _ => by
    unfold impl_pointsBy.b1; rw [if_neg (by dsimp only; omega)]) y ⟨hy, fun v => by have := hc v; omega⟩
  · rw [foldP] at key
    exact ⟨key.1, key.2.1, key.2.2⟩
  · obtain ⟨i1, i2⟩ := hI
    dsimp only
    unfold impl_pointsBy.b1
    obtain ⟨f1, t1, _⟩ := h.edge _ (gedge_mem hk)
    have hnx := nxN_lt hw hp
    generalize he : g.edges.getD k default = e at f1 t1
    rw [if_pos (by omega), ix_nat hk, he, Option.bind_some, letter_eq hw hp, Option.bind_some, next_eq hw hp]
    by_cases cc : e.letter = (letN w p : Int)
    · have hx := pt_lt hp (S := g.states.toNat) (s := e.from_.toNat) (by omega)
      have hx2 := pt_lt hnx (S := g.states.toNat) (s := e.to_.toNat) (by omega)
      have m1 : (p : Int) * g.states = ((p * g.states.toNat : Nat) : Int) := by rw [Int.natCast_mul, show ((g.states.toNat : Nat) : Int) = g.states by omega]
      have m2 : (nxN w p : Int) * g.states = ((nxN w p * g.states.toNat : Nat) : Int) := by rw [Int.natCast_mul, show ((g.states.toNat : Nat) : Int) = g.states by omega]
      have w1 : W (W ((p : Int) * g.states) + e.from_) = ((p * g.states.toNat + e.from_.toNat : Nat) : Int) := by
        rw [m1, show W ((p * g.states.toNat : Nat) : Int) = ((p * g.states.toNat : Nat) : Int) from W_eq (by omega) (by omega), W, W_eq (by omega) (by omega)]; omega
      have w2 : W (W ((nxN w p : Int) * g.states) + e.to_) = ((nxN w p * g.states.toNat + e.to_.toNat : Nat) : Int) := by
        rw [m2, show W ((nxN w p * g.states.toNat : Nat) : Int) = ((nxN w p * g.states.toNat : Nat) : Int) from W_eq (by omega) (by omega), W, W_eq (by omega) (by omega)]; omega
      have hl := i2 (p * g.states.toNat + e.from_.toNat)
      rw [if_pos cc, if_pos cc, w1, w2, add_eq (by omega) (by omega), Option.bind_some, WS (by omega)]
      refine ⟨rfl, by rw [addG_len]; exact i1, fun v => ?_⟩
      rw [addG_get (by show p * g.states.toNat + e.from_.toNat < y.length; omega)]
      have h2 := i2 v
      have h3 := addG_le y (stepE w g.states.toNat p e) v
      omega
    · rw [if_neg cc, if_neg cc, WS (by omega)]
      exact ⟨rfl, i1, fun v => by have := i2 v; omega⟩
theorem pointsBy_eq {g : TGen} (h : GW g) {w : TWord} (hw : WOk w) : impl_pointsBy g.states g.edges w = some ⟨buildG (plN w * g.states.toNat) (stepsW w g.states.toNat g.edges)⟩ := by
  have hn := h.num
  have hs := h.sts
  have hpl := plN_le hw
  have hps := pS_le hw (S := g.states.toNat) (by omega)
  unfold impl_pointsBy
  have m1 : W ((plN w : Int) * g.states) = ((plN w * g.states.toNat : Nat) : Int) := by
    rw [show (plN w : Int) * g.states = ((plN w * g.states.toNat : Nat) : Int) by rw [Int.natCast_mul, show ((g.states.toNat : Nat) : Int) = g.states by omega]]
    exact W_eq (by omega) (by omega)
  rw [places_eq hw, m1, graphOf_eq (by omega), Option.bind_some]
  have key := fold_loop (body := fun s : List (List Tstep) × Int => impl_pointsBy.b0 w g.edges g.states s.1 s.2) (List.range (plN w)) (fun y p => (stepsP w g.states.toNat g.edges p).foldl addG y) (fun k y => y.length = plN w * g.states.toNat ∧ ∀ v, (y.getD v default).length ≤ k * 2000) (fun k y hk hI => ?_) (fun y _ => by
    dsimp only
    unfold impl_pointsBy.b0
    rw [places_eq hw, if_neg (by rw [List.length_range]; omega)]) (List.replicate (plN w * g.states.toNat) []) ⟨by simp, fun v => by
      have : (List.replicate (plN w * g.states.toNat) ([] : List Tstep)).getD v default = [] := by
        simp only [List.getD_eq_getElem?_getD, List.getElem?_replicate]
        split <;> rfl
      rw [this]; simp⟩
  · rw [key.1, Option.bind_some]
    unfold impl_pointsBy.k0 buildG stepsW
    rw [List.foldl_flatMap]
  · rw [List.length_range] at hk
    obtain ⟨i1, i2⟩ := hI
    have hg : (List.range (plN w)).getD k default = k := by simp [hk]
    obtain ⟨r1, r2, r3⟩ := points_row h hw hk i1 i2 (by omega)
    dsimp only
    unfold impl_pointsBy.b0
    rw [hg, places_eq hw, if_pos (by omega), r1, Option.bind_some]
    unfold impl_pointsBy.k1
    rw [WS (by omega)]
    exact ⟨rfl, r2, fun v => by have := r3 v; omega⟩
theorem stepsW_mem {w : TWord} {S : Nat} {es : List TGEdge} {x : Nat × Tstep} : x ∈ stepsW w S es ↔ ∃ p e, p < plN w ∧ e ∈ es ∧ e.letter = (letN w p : Int) ∧ x = stepE w S p e := by
  unfold stepsW stepsP
  rw [List.mem_flatMap]
  constructor
  · rintro ⟨p, hp, hx⟩
    obtain ⟨e, he, rfl⟩ := List.mem_map.mp hx
    obtain ⟨h1, h2⟩ := List.mem_filter.mp he
    exact ⟨p, e, List.mem_range.mp hp, h1, by simpa using h2, rfl⟩
  · rintro ⟨p, e, hp, he, hc, rfl⟩
    exact ⟨p, List.mem_range.mpr hp, List.mem_map.mpr ⟨e, List.mem_filter.mpr ⟨he, by simpa using hc⟩, rfl⟩⟩
theorem stepsW_from {g : TGen} (h : GW g) {w : TWord} (hw : WOk w) : ∀ x ∈ stepsW w g.states.toNat g.edges, x.1 < plN w * g.states.toNat := by
  intro x hx
  obtain ⟨p, e, hp, he, _, rfl⟩ := stepsW_mem.mp hx
  have := h.edge e he
  exact pt_lt hp (by omega)
theorem stepsW_to {g : TGen} (h : GW g) {w : TWord} (hw : WOk w) : ∀ x ∈ stepsW w g.states.toNat g.edges, 0 ≤ x.2.to_ ∧ x.2.to_ < ((plN w * g.states.toNat : Nat) : Int) := by
  intro x hx
  obtain ⟨p, e, hp, he, _, rfl⟩ := stepsW_mem.mp hx
  have := h.edge e he
  have hx := pt_lt (nxN_lt hw hp) (S := g.states.toNat) (s := e.to_.toNat) (by omega)
  unfold stepE
  dsimp only
  omega
theorem stepsW_len {g : TGen} (h : GW g) {w : TWord} (hw : WOk w) : (stepsW w g.states.toNat g.edges).length ≤ 160000 := by
  have hn := h.num
  have hpl := plN_le hw
  unfold stepsW
  have key : ∀ l : List Nat, (l.flatMap (stepsP w g.states.toNat g.edges)).length ≤ l.length * 2000 := by
    intro l
    induction l with
    | nil => simp
    | cons p l ih =>
      have : (stepsP w g.states.toNat g.edges p).length ≤ 2000 := by
        unfold stepsP
        rw [List.length_map]
        exact Nat.le_trans (List.length_filter_le _ _) hn
      rw [List.flatMap_cons, List.length_append, List.length_cons]; omega
  have := key (List.range (plN w))
  rw [List.length_range] at this
  omega
theorem points_ok {g : TGen} (h : GW g) {w : TWord} (hw : WOk w) : GOk (buildG (plN w * g.states.toNat) (stepsW w g.states.toNat g.edges)) := by
  have hps := pS_le hw (S := g.states.toNat) (by have := h.sts; omega)
  have hl := stepsW_len h hw
  exact buildG_ok (by omega) (by omega) (stepsW_from h hw) (stepsW_to h hw)
/-- Its steps are those between points. -/
theorem points_adj {g : TGen} (h : GW g) {w : TWord} (hw : WOk w) {a : Nat} (ha : a < plN w * g.states.toNat) (b : Nat) : b ∈ adjG (buildG (plN w * g.states.toNat) (stepsW w g.states.toNat g.edges)) a ↔ b ∈ adjW g w a := by
  obtain ⟨hS, h1, h2, h3⟩ := pt_of ha
  rw [buildG_adj (stepsW_from h hw)]
  unfold adjW
  rw [List.mem_map]
  constructor
  · rintro ⟨x, hx, e1, e2⟩
    obtain ⟨p, e, hp, he, hc, rfl⟩ := stepsW_mem.mp hx
    have hE := h.edge e he
    have e1 : p * g.states.toNat + e.from_.toNat = a := e1
    have hd : a / g.states.toNat = p := by rw [← e1]; exact pt_div (by omega)
    have hm : a % g.states.toNat = e.from_.toNat := by rw [← e1]; exact pt_mod (by omega)
    have e2 : (((nxN w p * g.states.toNat + e.to_.toNat : Nat) : Int)).toNat = b := e2
    rw [Int.toNat_natCast] at e2
    refine ⟨e, List.mem_filter.mpr ⟨he, ?_⟩, by rw [hd]; exact e2⟩
    rw [decide_eq_true_eq, hd, hm]
    exact ⟨by omega, rfl⟩
  · rintro ⟨e, he, rfl⟩
    obtain ⟨he, hc⟩ := List.mem_filter.mp he
    rw [decide_eq_true_eq] at hc
    have hE := h.edge e he
    refine ⟨_, stepsW_mem.mpr ⟨a / g.states.toNat, e, h1, he, by omega, rfl⟩, ?_, ?_⟩
    · show a / g.states.toNat * g.states.toNat + e.from_.toNat = a
      rw [hc.2]; exact h3.symm
    · show (((nxN w (a / g.states.toNat) * g.states.toNat + e.to_.toNat : Nat) : Int)).toNat = _
      rw [Int.toNat_natCast]
end Go.Proofs.Ythdclobnmicdaaa
end

/- Graphs told into rings: points that lead to each other bear one number. -/
section
namespace Go.Proofs.Ythdclobnmicdaaa
open Go Go.RowKit E
set_option linter.unusedVariables false

theorem reverse_eq (xs : List Int) (h : xs.length ≤ 1000000) : slices_Reverse_int_int xs = some xs.reverse := by
  unfold slices_Reverse_int_int
  have key := loop_inv (body := fun s : List Int × Int × Int => slices_Reverse_int_int.b0 s.1 s.2.1 s.2.2) (fun s => ∃ (y : List Int) (k : Nat), s = (y, (k : Int), (xs.length : Int) - 1 - k) ∧ y.length = xs.length ∧ 2 * k ≤ xs.length + 1 ∧
      ∀ j, j < xs.length → y.getD j default = if j < k ∨ xs.length ≤ j + k then xs.getD (xs.length - 1 - j) default else xs.getD j default) (fun s => xs.length - s.2.1.toNat) (fun r => r = xs.reverse) ?_ (s := (xs, 0, W ((xs.length : Int) - 1))) ⟨xs, 0, by rw [WE (by omega) (by omega)]; simp, rfl, by omega, fun j hj => by rw [if_neg (by omega)]⟩
  · obtain ⟨r, h1, rfl⟩ := key
    rw [h1]; rfl
  · rintro _ ⟨y, k, rfl, hy, hk, hg⟩
    dsimp only
    unfold slices_Reverse_int_int.b0
    by_cases c : (k : Int) < (xs.length : Int) - 1 - k
    · right
      have e : (xs.length : Int) - 1 - k = ((xs.length - 1 - k : Nat) : Int) := by omega
      rw [if_pos c, e, ix_nat (by omega), Option.bind_some, ix_nat (by omega), Option.bind_some, ck_nat (by omega), Option.bind_some, ck_nat (by simp; omega), Option.bind_some, WE (by omega) (by omega), WE (by omega) (by omega)]
      refine ⟨((y.set k (y.getD (xs.length - 1 - k) default)).set (xs.length - 1 - k) (y.getD k default), ((k + 1 : Nat) : Int), (xs.length : Int) - 1 - ((k + 1 : Nat) : Int)), ?_, ⟨_, k + 1, rfl, by simpa using hy, by omega, fun j hj => ?_⟩, by dsimp only; omega⟩
      · rw [show (((xs.length - 1 - k : Nat) : Int) - 1) = (xs.length : Int) - 1 - ((k + 1 : Nat) : Int) by omega]; rfl
      · rw [getD_set (by simp; omega), getD_set (by omega)]
        by_cases e1 : xs.length - 1 - k = j
        · rw [if_pos e1, hg k (by omega), if_neg (by omega), if_pos (by omega)]
          congr 1; omega
        · rw [if_neg e1]
          by_cases e2 : k = j
          · rw [if_pos e2, hg _ (by omega), if_neg (by omega), if_pos (by omega)]
            congr 1; omega
          · rw [if_neg e2, hg j hj]
            by_cases c2 : j < k ∨ xs.length ≤ j + k
            · rw [if_pos c2, if_pos (by omega)]
            · rw [if_neg c2, if_neg (by omega)]
    · left
      refine ⟨y, by rw [if_neg c], ?_⟩
      refine List.ext_getElem (by simp [hy]) fun j h1 h2 => ?_
      have := hg j (by omega)
      have e1 : y.getD j default = y[j] := by simp [List.getD_eq_getElem?_getD, h1]
      rw [e1] at this
      rw [this, List.getElem_reverse]
      have hj : xs.length - 1 - j < xs.length := by omega
      by_cases c2 : j < k ∨ xs.length ≤ j + k
      · rw [if_pos c2]; simp [List.getD_eq_getElem?_getD, hj]
      · rw [if_neg c2]
        have : xs.length - 1 - j = j := by omega
        simp [List.getD_eq_getElem?_getD, show j < xs.length by omega, this]

/-- The order of a search down. -/
abbrev places (rs : List (Nat × Nat)) : List Tplace := (rs.map fun x => Tplace.mk (x.1 : Int) (x.2 : Int)).reverse
theorem places_cons (x : Nat × Nat) (rs : List (Nat × Nat)) : places (x :: rs) = places rs ++ [Tplace.mk (x.1 : Int) (x.2 : Int)] := by simp
theorem places_len (rs : List (Nat × Nat)) : (places rs).length = rs.length := by simp
theorem finished_eq {g : List (List Tstep)} (h : GOk g) : ∃ order, impl_graph_finished ⟨g⟩ = some (ints order) ∧ Fins (adjG g) g.length order := by
  have hlen := h.len
  unfold impl_graph_finished
  dsimp only
  rw [mk_ok (by omega) (by omega), Option.bind_some, Int.toNat_natCast]
  have key := loop_inv (body := fun s : List Int × List Bool × Int => impl_graph_finished.b0 ⟨g⟩ s.1 s.2.1 s.2.2) (fun s => ∃ order seen k, s = (ints order, seen, ((k : Nat) : Int)) ∧ Dfs (adjG g) g.length order [] seen ∧ k ≤ g.length ∧ ∀ v, v < k → seen.getD v default = true) (fun s => g.length - s.2.2.toNat)
    (fun r => ∃ order, r = ints order ∧ Fins (adjG g) g.length order) ?_ (s := ([], List.replicate g.length false, 0)) ⟨[], _, 0, rfl, Dfs.start, Nat.zero_le _, fun v hv => absurd hv (by omega)⟩
  · obtain ⟨r, h1, order, rfl, h2⟩ := key
    rw [h1]
    exact ⟨order, rfl, h2⟩
  · rintro _ ⟨order, seen, k, rfl, hD, hk, hs⟩
    dsimp only
    have hsl : seen.length = g.length := hD.len
    by_cases c : k < g.length
    · right
      unfold impl_graph_finished.b0
      rw [if_pos (by dsimp only; omega), ix_nat (by omega), Option.bind_some]
      by_cases c2 : seen.getD k default = true
      · rw [if_pos c2]
        unfold impl_graph_finished.k1
        rw [WS (by omega)]
        refine ⟨_, rfl, ⟨order, seen, k + 1, rfl, hD, by omega, fun v hv => ?_⟩, by dsimp only; omega⟩
        by_cases e : v = k
        · subst e; exact c2
        · exact hs v (by omega)
      · rw [if_neg c2, ck_nat (by omega), Option.bind_some]
        rw [Bool.not_eq_true] at c2
        have hD1 := hD.root c c2
        have key2 := loop_inv (body := fun s : List Int × List Bool × List Tplace => impl_graph_finished.b1 ⟨g⟩ s.1 s.2.1 s.2.2) (fun s => ∃ order rs seen', s = (ints order, seen', places rs) ∧ Dfs (adjG g) g.length order rs seen' ∧ (∀ v, v < g.length → seen.getD v default = true → seen'.getD v default = true) ∧ seen'.getD k default = true)
          (fun s => unseen s.2.1 * (2 * 1000000 + 3) + (s.2.2.map fun x => 2 * ((adjG g x.point.toNat).length - x.at_.toNat) + 1).sum)
          (fun r => ∃ order seen', r = (ints order, seen') ∧ Dfs (adjG g) g.length order [] seen' ∧ (∀ v, v < g.length → seen.getD v default = true → seen'.getD v default = true) ∧ seen'.getD k default = true) ?_ (s := (ints order, seen.set k true, [Tplace.mk (k : Int) 0])) ⟨order, [(k, 0)], _, rfl, hD1, fun v hv g' => by rw [seen_set (by omega)]; exact .inr g', by rw [seen_set (by omega)]; exact .inl rfl⟩
        · obtain ⟨_, h1, order', seen', rfl, h2, h3, h4⟩ := key2
          rw [h1, Option.bind_some]
          unfold impl_graph_finished.k1
          rw [WS (by omega)]
          refine ⟨_, rfl, ⟨order', seen', k + 1, rfl, h2, by omega, fun v hv => ?_⟩, by dsimp only; omega⟩
          by_cases e : v = k
          · subst e; exact h4
          · exact h3 v (by omega) (hs v (by omega))
        · rintro _ ⟨order, rs, seen', rfl, hD, hm, hkk⟩
          dsimp only
          have hsl' : seen'.length = g.length := hD.len
          have hmu : ∀ rs : List (Nat × Nat), ((places rs).map fun x => 2 * ((adjG g x.point.toNat).length - x.at_.toNat) + 1).sum = (rs.map fun x => 2 * ((adjG g x.1).length - x.2) + 1).sum := fun rs => by
            simp only [places, List.map_reverse, List.sum_reverse, List.map_map, Function.comp_def, Int.toNat_natCast]
          rw [hmu]
          unfold impl_graph_finished.b1
          cases rs with
          | nil =>
            left
            refine ⟨(ints order, seen'), by rw [if_neg (by simp)], order, seen', rfl, hD, hm, hkk⟩
          | cons x rs =>
            right
            obtain ⟨p, at_⟩ := x
            have hnd := nodup_le hD.nd hD.lt
            have hpn : p < g.length := hD.lt p (by simp)
            have hord : order.length + (rs.length + 1) ≤ g.length := by simpa using hnd
            have hpl : (places ((p, at_) :: rs)).length = rs.length + 1 := by simp
            have htop : (places ((p, at_) :: rs)).getD rs.length default = Tplace.mk (p : Int) (at_ : Int) := by
              rw [places_cons, List.getD_eq_getElem?_getD, List.getElem?_append_right (by simp)]; simp
            have hset : ∀ t, (places ((p, at_) :: rs)).set rs.length t = places rs ++ [t] := fun t => by
              rw [places_cons, List.set_append_right _ _ (by simp)]; simp
            have hat := (hD.at_ (p, at_) List.mem_cons_self).1
            have hrp := h.row p hpn
            have hadl : (adjG g p).length = (g.getD p default).length := by simp [adjG]
            dsimp only at hat
            rw [hpl, if_pos (by omega), show (((rs.length + 1 : Nat) : Int) - 1) = (rs.length : Int) by omega, WE (by omega) (by omega), ck_nat (by omega), Option.bind_some, htop]
            dsimp only
            rw [ix_nat hpn, Option.bind_some]
            by_cases c3 : at_ = (g.getD p default).length
            · rw [if_pos (by rw [c3]), app_small (by simp; omega) (by decide), Option.bind_some]
              have hcut : cut (places ((p, at_) :: rs)) 0 (rs.length : Int) = some (places rs) := by
                unfold cut
                rw [if_pos ⟨by omega, by omega, by rw [hpl]; omega⟩, places_cons]; simp
              rw [hcut, Option.bind_some]
              refine ⟨_, rfl, ⟨order ++ [p], rs, seen', by rw [ints_snoc], hD.pop (by omega) h.adj, hm, hkk⟩, ?_⟩
              dsimp only
              rw [hmu]
              exact dfsMu_pop (D := 1000000) (adj := adjG g)
            · rw [if_neg (by omega)]
              have hlt : at_ < (g.getD p default).length := by omega
              have hmem := getD_memL hlt
              have hto := h.to_ p hpn _ hmem
              have hval : (adjG g p).getD at_ 0 = ((g.getD p default).getD at_ default).to_.toNat := by
                have : ∀ (L : List Tstep) (i : Nat), i < L.length → (L.map fun s => s.to_.toNat).getD i 0 = (L.getD i default).to_.toNat := fun L i hi => by simp [List.getD_eq_getElem?_getD, hi]
                exact this _ _ hlt
              rw [Option.bind_some, ix_nat hlt, Option.bind_some, ix_ok hto.1 (by omega), Option.bind_some, hset, WS (by omega)]
              by_cases c4 : seen'.getD ((g.getD p default).getD at_ default).to_.toNat default = true
              · rw [if_neg (by rw [c4]; simp)]
                refine ⟨_, rfl, ⟨order, (p, at_ + 1) :: rs, seen', by rw [places_cons], hD.next (by omega) (by rw [hval]; exact c4), hm, hkk⟩, ?_⟩
                dsimp only
                rw [← places_cons (p, at_ + 1), hmu]
                exact dfsMu_next (D := 1000000) (adj := adjG g) (by omega)
              · rw [Bool.not_eq_true] at c4
                rw [if_pos (by rw [c4]; rfl), ck_ok hto.1 (by omega), Option.bind_some, app_small (by simp; omega) (by decide), Option.bind_some]
                refine ⟨_, rfl, ⟨order, (((g.getD p default).getD at_ default).to_.toNat, 0) :: (p, at_ + 1) :: rs, _, ?_, hD.push (by omega) hval (by omega) c4, fun v hv gv => ?_, ?_⟩, ?_⟩
                · rw [places_cons, places_cons, Int.toNat_of_nonneg hto.1]; rfl
                · rw [seen_set (by omega)]; exact .inr (hm v hv gv)
                · rw [seen_set (by omega)]; exact .inr hkk
                · dsimp only
                  have e : places rs ++ [{ point := (p : Int), at_ := ((at_ + 1 : Nat) : Int) }] ++ [{ point := ((g.getD p default).getD at_ default).to_, at_ := 0 }] = places ((((g.getD p default).getD at_ default).to_.toNat, 0) :: (p, at_ + 1) :: rs) := by
                    rw [places_cons, places_cons, Int.toNat_of_nonneg hto.1]; rfl
                  rw [e, hmu]
                  have hrow := h.row _ (show ((g.getD p default).getD at_ default).to_.toNat < g.length by omega)
                  exact dfsMu_push (D := 1000000) (adj := adjG g) (by omega) (by simpa [adjG] using hrow) (by omega) c4
    · left
      refine ⟨ints order, ?_, order, rfl, hD.fins fun v hv => hs v (by omega)⟩
      unfold impl_graph_finished.b0
      rw [if_neg (by dsimp only; omega)]
/-- All points told into rings. -/
structure IsRings (g : List (List Tstep)) (out : List Int) : Prop where
  len : out.length = g.length
  pos : ∀ v, v < g.length → 0 ≤ out.getD v default ∧ out.getD v default < g.length
  iff : ∀ u v, u < g.length → v < g.length → (out.getD u default = out.getD v default ↔ Mut (adjG g) u v)
theorem rings_eq {g gt : List (List Tstep)} (h : GOk g) (ht : impl_graph_back ⟨g⟩ = some ⟨gt⟩) (hgt : GOk gt) (hl : gt.length = g.length) (hrad : ∀ p u, p < g.length → u < g.length → (u ∈ adjG gt p ↔ p ∈ adjG g u)) : ∃ out, impl_graph_rings ⟨g⟩ = some out ∧ IsRings g out := by
  have hlen := h.len
  obtain ⟨order, ho, hF⟩ := finished_eq h
  have hol : order.length = g.length := by
    have h1 := nodup_le hF.nd hF.lt
    have h2 : (List.range g.length).length ≤ order.length := by
      refine List.Nodup.length_le_of_subset List.nodup_range fun v hv => hF.all v (List.mem_range.mp hv)
    simp at h2; omega
  unfold impl_graph_rings
  rw [ho, Option.bind_some, ht, Option.bind_some]
  dsimp only
  rw [mk_ok (by omega) (by omega), Option.bind_some, Int.toNat_natCast, fill_loop (0 : Int) (-1) g.length (fun k y hk hy => by
    unfold impl_graph_rings.b3
    rw [if_pos (by simp; omega)]
    dsimp only
    rw [ck_nat (by omega), Option.bind_some, WS (by omega)]) (fun y hy => by unfold impl_graph_rings.b3; rw [if_neg (by simp)]), Option.bind_some]
  unfold impl_graph_rings.k0
  have hrev : (ints order).reverse = ints order.reverse := by simp [List.map_reverse]
  rw [reverse_eq _ (by simp; omega), Option.bind_some, hrev]
  have hrl : order.reverse.length = g.length := by simp [hol]
  have hrn : ∀ k, k < g.length → order.reverse.getD k 0 < g.length := fun k hk => hF.lt _ (by
    have : order.reverse.getD k 0 ∈ order.reverse := getD_mem (by omega)
    simpa using this)
  have key := loop_inv (body := fun s : List Int × Int => impl_graph_rings.b0 (ints order.reverse) ⟨gt⟩ s.1 s.2) (fun s => ∃ out k, s = (out, ((k : Nat) : Int)) ∧ Rings (adjG g) g.length order.reverse k out ∧ k ≤ g.length) (fun s => g.length - s.2.toNat) (fun r => IsRings g r) ?_ (s := (List.replicate g.length (-1), 0)) ⟨_, 0, rfl, Rings.start, Nat.zero_le _⟩
  · obtain ⟨r, h1, h2⟩ := key
    rw [h1]
    exact ⟨r, rfl, h2⟩
  · rintro _ ⟨out, k, rfl, hR, hk⟩
    have hlo := hR.len
    dsimp only
    by_cases c : k < g.length
    · right
      have hr := hrn k c
      unfold impl_graph_rings.b0
      rw [if_pos (by simp; omega), ints_get (by omega), Option.bind_some, ix_nat (by omega), Option.bind_some]
      by_cases c2 : out.getD (order.reverse.getD k 0) default ≥ 0
      · rw [if_pos c2]
        unfold impl_graph_rings.k2
        rw [WS (by omega)]
        exact ⟨_, rfl, ⟨out, k + 1, rfl, hR.skip hr c2, by omega⟩, by dsimp only; omega⟩
      · rw [if_neg c2, ck_nat (by omega), Option.bind_some]
        have hfl0 := Flood.start (adj := adjG g) (radj := adjG gt) (ring := (k : Int)) hr hlo (by omega) (by omega)
        have key2 := loop_inv (body := fun s : List Int × List Int => impl_graph_rings.b1 ⟨gt⟩ (k : Int) s.1 s.2) (fun s => ∃ o q, s = (o, ints q) ∧ Flood (adjG g) (adjG gt) g.length (order.reverse.getD k 0) (k : Int) out (fun _ => False) (o, q) ∧ 2 * unset o + q.length ≤ 2 * g.length + 1) (fun s => 2 * unset s.1 + s.2.length)
          (fun r => Flood (adjG g) (adjG gt) g.length (order.reverse.getD k 0) (k : Int) out (fun _ => False) (r, [])) ?_ (s := (out.set (order.reverse.getD k 0) (k : Int), [((order.reverse.getD k 0 : Nat) : Int)])) ⟨_, [order.reverse.getD k 0], rfl, hfl0, by
          have h1 := unset_set (d := (k : Int)) (by omega) (s := out) (v := order.reverse.getD k 0) (by omega) (by omega)
          have h2 : unset out ≤ out.length := by unfold unset; exact List.countP_le_length
          simp only [List.length_singleton]; omega⟩
        · obtain ⟨r, h1, h2⟩ := key2
          rw [h1, Option.bind_some]
          unfold impl_graph_rings.k2
          rw [WS (by omega)]
          exact ⟨_, rfl, ⟨r, k + 1, rfl, hR.flood hF h.adj (fun p u hp hu hm => (hrad p u hp hu).mpr hm) (by omega) (by omega) h2, by omega⟩, by dsimp only; omega⟩
        · rintro _ ⟨o, q, rfl, hfl, hq⟩
          dsimp only
          unfold impl_graph_rings.b1
          rcases List.eq_nil_or_concat q with rfl | ⟨q, p, rfl⟩
          · left
            exact ⟨o, by rw [if_neg (by simp)], hfl⟩
          · right
            rw [List.concat_eq_append] at hfl hq ⊢
            have hpn : p < g.length := (hfl.stk p (by simp)).1
            have hlo' : o.length = g.length := hfl.len
            have hql : (ints (q ++ [p])).length = q.length + 1 := by simp
            have hq' : 2 * unset o + (q.length + 1) ≤ 2 * g.length + 1 := by simpa using hq
            rw [hql, if_pos (by omega), show (((q.length + 1 : Nat) : Int) - 1) = (q.length : Int) by omega, WE (by omega) (by omega)]
            have hix : ix (ints (q ++ [p])) (q.length : Int) = some (p : Int) := by rw [ints_get (by simp)]; simp [List.getD_eq_getElem?_getD]
            have hcut : cut (ints (q ++ [p])) 0 (q.length : Int) = some (ints q) := by
              unfold cut
              rw [if_pos ⟨by omega, by omega, by rw [hql]; omega⟩]; simp
            rw [hix, Option.bind_some, hcut, Option.bind_some]
            have hpg : p < gt.length := by omega
            rw [show ix gt (p : Int) = some (gt.getD p default) from ix_nat hpg, Option.bind_some]
            have hrow := hgt.row p hpg
            have hst := hfl.step (by omega) (fun p hp u hu => ⟨by have := hgt.adj p (by omega) u hu; omega, (hrad p u hp (by have := hgt.adj p (by omega) u hu; omega)).mp hu⟩)
            have hme := pour_meas (d := (k : Int)) (by omega) (l := adjG gt p) (s := (o, q)) (fun u hu => by dsimp only; have := hgt.adj p hpg u hu; omega)
            have e2 := pour_loop (body := fun s : List Int × List Int × Int => impl_graph_rings.b2 (gt.getD p default) (k : Int) s.1 s.2.1 s.2.2) (gt.getD p default) (fun s => s.to_.toNat) (k : Int) 3000000 (fun o => o.length = g.length)
              (fun o u h1 hu hneg => by simpa using h1) (fun o h1 a ha => by have := hgt.to_ p hpg a ha; rw [h1]; omega) (fun j o q' hj h1 hq => ?_) (fun o q h1 => by unfold impl_graph_rings.b2; rw [if_neg (by simp)]) o q hlo' (by omega)
            · rw [e2, Option.bind_some]
              have hme' : 2 * unset (pour (k : Int) (adjG gt p) (o, q)).1 + (pour (k : Int) (adjG gt p) (o, q)).2.length ≤ 2 * unset o + q.length := hme
              clear hme e2
              have hP : pour (k : Int) ((gt.getD p default).map fun s => s.to_.toNat) (o, q) = pour (k : Int) (adjG gt p) (o, q) := rfl
              rw [hP]
              generalize pour (k : Int) (adjG gt p) (o, q) = P at hst hme'
              refine ⟨(P.1, ints P.2), rfl, ⟨P.1, P.2, rfl, hst, by omega⟩, ?_⟩
              show 2 * unset P.1 + (ints P.2).length < 2 * unset o + (q.length + 1)
              rw [List.length_map]
              omega
            · have h1a : o.length = g.length := h1
              have hto := hgt.to_ p hpg _ (getD_memL hj)
              unfold impl_graph_rings.b2
              rw [if_pos (by dsimp only; omega)]
              dsimp only
              rw [ix_nat hj, Option.bind_some, ix_ok hto.1 (by omega), Option.bind_some]
              by_cases c4 : o.getD ((gt.getD p default).getD j default).to_.toNat default < 0
              · rw [if_pos c4, if_pos c4, ck_ok hto.1 (by omega), Option.bind_some, app_small (by simp; omega) (by decide), Option.bind_some, WS (by omega), ints_snoc, Int.toNat_of_nonneg hto.1]
              · rw [if_neg c4, if_neg c4, WS (by omega)]
    · left
      have hkn : k = g.length := by omega
      refine ⟨out, ?_, hlo, fun v hv => ?_, fun u v hu hv => ?_⟩
      · unfold impl_graph_rings.b0
        rw [if_neg (by simp; omega)]
      · have hin := hF.all v hv
        obtain ⟨j, hj, e⟩ := List.getElem_of_mem (List.mem_reverse.mpr hin)
        have : order.reverse.getD j 0 = v := by rw [List.getD_eq_getElem?_getD, List.getElem?_eq_getElem hj, e]; rfl
        have h2 := hR.lt v hv
        exact ⟨(hR.dom v hv).mpr ⟨j, by omega, by rw [this]; exact .refl v⟩, by omega⟩
      · have pos : ∀ v, v < g.length → 0 ≤ out.getD v default := fun v hv => by
          obtain ⟨j, hj, e⟩ := List.getElem_of_mem (List.mem_reverse.mpr (hF.all v hv))
          have : order.reverse.getD j 0 = v := by rw [List.getD_eq_getElem?_getD, List.getElem?_eq_getElem hj, e]; rfl
          exact (hR.dom v hv).mpr ⟨j, by omega, by rw [this]; exact .refl v⟩
        exact hR.eq u v hu hv (pos u hu) (pos v hv)
end Go.Proofs.Ythdclobnmicdaaa
end

/- Sets of states, edges in order, numbers compared. -/
section
namespace Go.Proofs.Ythdclobnmicdaaa
open Go Go.RowKit E
set_option linter.unusedVariables false

theorem setIn_eq (x : Int) {n : Nat} (h : n ≤ 31) : spec_SetIn x (W (shl .i64 1 (n : Int) - 1)) = decide (0 ≤ x ∧ x < ((2 ^ n : Nat) : Int)) := by
  have hp := pow31 h
  rw [shl1_i (by omega)]
  have e : W (((2 ^ n : Nat) : Int) - 1) = ((2 ^ n - 1 : Nat) : Int) := by
    generalize 2 ^ n = y at hp ⊢
    rw [W, W_eq (by omega) (by omega)]; omega
  rw [e]
  unfold spec_SetIn spec_SetOk
  rw [l1Rg, l1Rg, bnd_eq, bnd_eq]
  by_cases h0 : 0 ≤ x ∧ x ≤ 2147483647
  · obtain ⟨y, rfl⟩ : ∃ y : Nat, x = y := ⟨x.toNat, by omega⟩
    rw [bAnd_i (by omega) (by omega), Nat.and_two_pow_sub_one_eq_mod]
    rw [decide_eq_true h0, decide_eq_true (by omega), Bool.and_self, Bool.true_and]
    rw [decide_eq_decide]
    constructor
    · intro g
      have g : y % 2 ^ n = y := by omega
      have := (Nat.mod_eq_iff_lt (by omega)).mp g
      omega
    · rintro ⟨_, g⟩
      rw [Nat.mod_eq_of_lt (by omega)]
  · rw [decide_eq_false h0, Bool.false_and, Bool.false_and]
    symm; rw [decide_eq_false_iff_not]; omega
theorem only_eq {n : Nat} (h : n ≤ 31) : impl_only (n : Int) = ((2 ^ n : Nat) : Int) := by
  unfold impl_only
  rw [u64_nat (by omega), shl1_i (by omega)]

/-- Edges in order. -/
def edgeLt (a b : TEdge) : Bool := decide (a.from_ < b.from_ ∨ (a.from_ = b.from_ ∧ (a.letter < b.letter ∨ (a.letter = b.letter ∧ a.to_ < b.to_))))
theorem l4Less_eq (a b : TEdge) : spec_l4Less a b = edgeLt a b := by
  unfold spec_l4Less edgeLt
  split
  · rw [decide_eq_decide]; omega
  · split
    · rw [decide_eq_decide]; omega
    · rw [decide_eq_decide]; omega
theorem cmpInt_eq (x y : Int) : cmp_Compare_int x y = if x < y then -1 else if x > y then 1 else 0 := by
  unfold cmp_Compare_int cmp_isNaN_int
  rw [if_neg (by simp), if_neg (by simp)]
theorem cmpOr_eq (x y z : Int) : cmp_Or_int [x, y, z] = some (if x ≠ 0 then x else if y ≠ 0 then y else z) := by
  unfold cmp_Or_int
  have i0 : ix [x, y, z] (0 : Int) = some x := rfl
  have i1 : ix [x, y, z] (1 : Int) = some y := rfl
  have i2 : ix [x, y, z] (2 : Int) = some z := rfl
  have w0 : W (0 + 1) = 1 := by decide
  have w1 : W (1 + 1) = 2 := by decide
  have w2 : W (2 + 1) = 3 := by decide
  by_cases hx : x ≠ 0
  · rw [loop_end (r := .inr x) (by unfold cmp_Or_int.b0; rw [if_pos (by simp), i0, Option.bind_some, if_pos hx]), if_pos hx]; rfl
  · rw [loop_go (s' := 1) (by unfold cmp_Or_int.b0; rw [if_pos (by simp), i0, Option.bind_some, if_neg hx, w0]), if_neg hx]
    by_cases hy : y ≠ 0
    · rw [loop_end (r := .inr y) (by unfold cmp_Or_int.b0; rw [if_pos (by simp), i1, Option.bind_some, if_pos hy]), if_pos hy]; rfl
    · rw [loop_go (s' := 2) (by unfold cmp_Or_int.b0; rw [if_pos (by simp), i1, Option.bind_some, if_neg hy, w1]), if_neg hy]
      by_cases hz : z ≠ 0
      · rw [loop_end (r := .inr z) (by unfold cmp_Or_int.b0; rw [if_pos (by simp), i2, Option.bind_some, if_pos hz])]; rfl
      · rw [loop_go (s' := 3) (by unfold cmp_Or_int.b0; rw [if_pos (by simp), i2, Option.bind_some, if_neg hz, w2]), loop_end (r := .inl ()) (by unfold cmp_Or_int.b0; rw [if_neg (by simp)])]
        have : z = 0 := by omega
        rw [this]; rfl
end Go.Proofs.Ythdclobnmicdaaa
end

/- Which automata of many marks the reference finds right. -/
section
namespace Go.Proofs.Ythdclobnmicdaaa
open Go Go.RowKit E
set_option linter.unusedVariables false

def gEdge (e : TGEdge) : TEdge := ⟨e.from_, e.letter, e.to_, false⟩
theorem l5Less_eq (a b : TGEdge) : spec_l5Less a b = edgeLt (gEdge a) (gEdge b) := by
  unfold spec_l5Less; exact l4Less_eq _ _
def gedgeOk (a : TGen) (k : Nat) : Bool :=
  decide (0 ≤ (a.edges.getD k default).from_ ∧ (a.edges.getD k default).from_ ≤ a.states - 1) && decide (0 ≤ (a.edges.getD k default).to_ ∧ (a.edges.getD k default).to_ ≤ a.states - 1) && decide (0 ≤ (a.edges.getD k default).letter ∧ (a.edges.getD k default).letter ≤ a.letters - 1) && decide (0 ≤ (a.edges.getD k default).marks ∧ (a.edges.getD k default).marks < ((2 ^ a.sets.toNat : Nat) : Int)) && (decide (k = 0) || edgeLt (gEdge (a.edges.getD (k - 1) default)) (gEdge (a.edges.getD k default)))
def gheadOk (a : TGen) : Bool := decide (1 ≤ a.letters ∧ a.letters ≤ 8) && decide (0 ≤ a.states ∧ a.states ≤ 31) && decide (0 ≤ a.start ∧ a.start < ((2 ^ a.states.toNat : Nat) : Int)) && decide (0 ≤ a.sets ∧ a.sets ≤ 4) && decide (a.edges.length ≤ 2000)
def genOk (a : TGen) : Bool := gheadOk a && (List.range a.edges.length).all (gedgeOk a)
theorem gheadOk_t {a : TGen} (h : gheadOk a = true) : (1 ≤ a.letters ∧ a.letters ≤ 8) ∧ (0 ≤ a.states ∧ a.states ≤ 31) ∧ (0 ≤ a.start ∧ a.start < ((2 ^ a.states.toNat : Nat) : Int)) ∧ (0 ≤ a.sets ∧ a.sets ≤ 4) ∧ a.edges.length ≤ 2000 := by
  unfold gheadOk at h
  simp only [Bool.and_eq_true, decide_eq_true_eq] at h
  exact ⟨h.1.1.1.1, h.1.1.1.2, h.1.1.2, h.1.2, h.2⟩
theorem specGEdge_eq (a : TGen) (h : gheadOk a = true) {k : Nat} (hk : k < a.edges.length) : spec_GenOk.b0 a (k : Int) = some (if gedgeOk a k = true then .inl ((k + 1 : Nat) : Int) else .inr (.inr false)) := by
  obtain ⟨h1, h2, h3, h5, h4⟩ := gheadOk_t h
  unfold spec_GenOk.b0 gedgeOk spec_l4State
  have w1 : W (a.states - 1) = a.states - 1 := W_eq (by omega) (by omega)
  have w2 : W (a.letters - 1) = a.letters - 1 := W_eq (by omega) (by omega)
  have hm := fun x => setIn_eq x (n := a.sets.toNat) (by omega)
  rw [show ((a.sets.toNat : Nat) : Int) = a.sets by omega] at hm
  simp only [bnd_eq, l1Rg, w1, w2, l5Less_eq, hm]
  rw [if_pos (by omega), ix_nat hk, Option.bind_some, WN (by omega), decide_eq_true h5.1, chk_t]
  generalize a.edges.getD k default = e
  by_cases c1 : 0 ≤ e.from_ ∧ e.from_ ≤ a.states - 1
  · by_cases c2 : 0 ≤ e.to_ ∧ e.to_ ≤ a.states - 1
    · by_cases c3 : 0 ≤ e.letter ∧ e.letter ≤ a.letters - 1
      · rw [decide_eq_true c1, decide_eq_true c2, decide_eq_true c3]
        simp only [Bool.not_true, Bool.or_self, Bool.not_false, whenO_t, Option.bind_some, Bool.false_or, Bool.true_and]
        by_cases c5 : 0 ≤ e.marks ∧ e.marks < ((2 ^ a.sets.toNat : Nat) : Int)
        · rw [decide_eq_true c5]
          by_cases c4 : k = 0
          · subst c4; rfl
          · rw [decide_eq_true (by omega : (k : Int) > 0), decide_eq_false c4]
            have e1 : W ((k : Int) - 1) = ((k - 1 : Nat) : Int) := by rw [W, W_eq (by omega) (by omega)]; omega
            rw [e1, ix_nat (by omega)]
            simp only [Bool.not_true, Bool.or_self, Bool.not_false, Bool.and_self, whenO_t, Option.bind_some, Bool.false_or, Bool.true_and]
            cases edgeLt (gEdge (a.edges.getD (k - 1) default)) (gEdge e) <;> rfl
        · rw [decide_eq_false c5]; simp [whenO]
      · rw [decide_eq_false c3]; simp [whenO]
    · rw [decide_eq_false c2]; simp [whenO]
  · rw [decide_eq_false c1]; simp [whenO]
theorem specGenOk_eq (a : TGen) : spec_GenOk a = some (genOk a) := by
  unfold spec_GenOk genOk
  rw [bnd_eq, bnd_eq, bnd_eq, bnd_eq, l1Rg, l1Rg, l1Rg]
  by_cases hh : gheadOk a = true
  · obtain ⟨h1, h2, h3, h5, h4⟩ := gheadOk_t hh
    rw [decide_eq_true h1, decide_eq_true h2, Bool.not_true, Bool.or_self, Bool.not_false, whenO_t, decide_eq_true h2.1, chk_t, Option.bind_some]
    have e : a.states = ((a.states.toNat : Nat) : Int) := by omega
    have hs := setIn_eq a.start (n := a.states.toNat) (by omega)
    rw [← e] at hs
    rw [hs, decide_eq_true h3, decide_eq_true h5, decide_eq_false (by omega : ¬ (a.edges.length : Int) > 2000), if_neg (by simp), hh]
    rw [all_loop a.edges.length (gedgeOk a) (fun k hk => specGEdge_eq a hh hk) (by unfold spec_GenOk.b0; rw [if_neg (by omega)]), Option.bind_some]
    cases (List.range a.edges.length).all (gedgeOk a) <;> rfl
  · rw [Bool.not_eq_true] at hh
    rw [hh, Bool.false_and]
    by_cases h1 : 1 ≤ a.letters ∧ a.letters ≤ 8
    · by_cases h2 : 0 ≤ a.states ∧ a.states ≤ 31
      · rw [decide_eq_true h1, decide_eq_true h2, Bool.not_true, Bool.or_self, Bool.not_false, whenO_t, decide_eq_true h2.1, chk_t, Option.bind_some]
        have e : a.states = ((a.states.toNat : Nat) : Int) := by omega
        have hs := setIn_eq a.start (n := a.states.toNat) (by omega)
        rw [← e] at hs
        rw [hs]
        unfold gheadOk at hh
        rw [decide_eq_true h1, decide_eq_true h2] at hh
        rw [if_pos]
        by_cases h3 : 0 ≤ a.start ∧ a.start < ((2 ^ a.states.toNat : Nat) : Int)
        · rw [decide_eq_true h3] at hh
          by_cases h5 : 0 ≤ a.sets ∧ a.sets ≤ 4
          · rw [decide_eq_true h5] at hh
            have : ¬ a.edges.length ≤ 2000 := by simpa using hh
            rw [decide_eq_true (by omega : (a.edges.length : Int) > 2000), Bool.or_true]
          · rw [decide_eq_false h5]; simp
        · rw [decide_eq_false h3]; simp
      · rw [decide_eq_false h2]; simp [whenO]
    · rw [decide_eq_false h1]; simp [whenO]
theorem genOk_W {g : TGen} (h : genOk g = true) (hs : g.states ≠ 0) : GW g := by
  unfold genOk at h
  rw [Bool.and_eq_true] at h
  obtain ⟨g1, g2, g3, g5, g4⟩ := gheadOk_t h.1
  refine ⟨g1, by omega, g3, g5, g4, fun e he => ?_⟩
  obtain ⟨k, hk, rfl⟩ := mem_gedge he
  have := List.all_eq_true.mp h.2 k (List.mem_range.mpr hk)
  unfold gedgeOk at this
  simp only [Bool.and_eq_true, decide_eq_true_eq] at this
  omega
end Go.Proofs.Ythdclobnmicdaaa
end

/- Loops that ask whether one is so. -/
section
namespace Go.Proofs.Ythdclobnmicdaaa
open Go Go.RowKit E
set_option linter.unusedVariables false

noncomputable def dcW (p : Prop) : Bool := @decide p (Classical.propDecidable p)
theorem dcW_t {p : Prop} (h : p) : dcW p = true := @decide_eq_true p (Classical.propDecidable p) h
theorem dcW_f {p : Prop} (h : ¬ p) : dcW p = false := @decide_eq_false p (Classical.propDecidable p) h
theorem dcW_iff {p : Prop} : dcW p = true ↔ p := @decide_eq_true_iff p (Classical.propDecidable p)
theorem any_loopW {body : Int → Option (Int ⊕ (Unit ⊕ Bool))} (n : Nat) (c : Nat → Prop) (go : ∀ k, k < n → (c k ∧ body (k : Int) = some (.inr (.inr true))) ∨ (¬ c k ∧ body (k : Int) = some (.inl ((k + 1 : Nat) : Int)))) (fin : body (n : Int) = some (.inr (.inl ()))) : loop body 0 = some (if dcW (∃ k, k < n ∧ c k) = true then .inr true else .inl ()) := by
  have key : ∀ d k, k + d = n → (∀ j, j < k → ¬ c j) → loop body (k : Int) = some (if dcW (∃ k, k < n ∧ c k) = true then .inr true else .inl ()) := by
    intro d
    induction d with
    | zero =>
      intro k hk he
      obtain rfl : k = n := by omega
      rw [dcW_f (fun ⟨j, hj, h⟩ => he j hj h), if_neg (by simp)]
      exact loop_end fin
    | succ d ih =>
      intro k hk he
      rcases go k (by omega) with ⟨h, e⟩ | ⟨h, e⟩
      · rw [dcW_t ⟨k, by omega, h⟩, if_pos rfl]
        exact loop_end e
      · rw [loop_go e]
        refine ih (k + 1) (by omega) fun j hj => ?_
        by_cases ej : j = k
        · rw [ej]; exact h
        · exact he j (by omega)
  exact key n 0 (by omega) (fun j hj => absurd hj (by omega))
theorem any_list {body : Int → Option (Int ⊕ (Unit ⊕ Bool))} {l : List Nat} (c : Nat → Prop) (go : ∀ k, k < l.length → (c (l.getD k default) ∧ body (k : Int) = some (.inr (.inr true))) ∨ (¬ c (l.getD k default) ∧ body (k : Int) = some (.inl ((k + 1 : Nat) : Int)))) (fin : body (l.length : Int) = some (.inr (.inl ()))) : loop body 0 = some (if dcW (∃ x ∈ l, c x) = true then .inr true else .inl ()) := by
  have h := any_loopW l.length (fun k => c (l.getD k default)) go fin
  rw [h]
  have e : (∃ k, k < l.length ∧ c (l.getD k default)) ↔ ∃ x ∈ l, c x := by
    constructor
    · rintro ⟨k, hk, h⟩
      exact ⟨_, by rw [List.getD_eq_getElem?_getD, List.getElem?_eq_getElem hk]; exact List.getElem_mem hk, h⟩
    · rintro ⟨x, hx, h⟩
      obtain ⟨k, hk, rfl⟩ := List.getElem_of_mem hx
      exact ⟨k, hk, by simpa [hk] using h⟩
  rw [propext e]
end Go.Proofs.Ythdclobnmicdaaa
end

/- What an automaton of many marks takes, by the reference: a ring that is reached, with a step in it, whose steps have all marks. -/
section
namespace Go.Proofs.Ythdclobnmicdaaa
open Go Go.RowKit E
set_option linter.unusedVariables false

/-- A step within a ring that is reached. -/
def InW (g : TGen) (w : TWord) (p : Nat) (e : TGEdge) : Prop := p < plN w ∧ e ∈ g.edges ∧ e.letter.toNat = letN w p ∧ Begun g w (p * g.states.toNat + e.from_.toNat) ∧ Mut (adjW g w) (p * g.states.toNat + e.from_.toNat) (nxN w p * g.states.toNat + e.to_.toNat)
def LiveW (g : TGen) (w : TWord) : Prop := ∃ p e, InW g w p e ∧ ∀ m, m < g.sets.toNat → ∃ p' e', InW g w p' e' ∧ Mut (adjW g w) (p * g.states.toNat + e.from_.toNat) (p' * g.states.toNat + e'.from_.toNat) ∧ e'.marks.toNat.testBit m = true
/-- A step between points of number c. -/
def InC (g : TGen) (w : TWord) (f : Nat → Int) (p i : Nat) (c : Nat) : Prop := p < plN w ∧ i < g.edges.length ∧ (g.edges.getD i default).letter.toNat = letN w p ∧ f (p * g.states.toNat + (g.edges.getD i default).from_.toNat) = (c : Int) ∧ f (nxN w p * g.states.toNat + (g.edges.getD i default).to_.toNat) = (c : Int)
def doneC (p i p' i' : Nat) : Prop := p' < p ∨ (p' = p ∧ i' < i)
structure AccC (g : TGen) (w : TWord) (f : Nat → Int) (p i : Nat) (sm : Nat → Bool) (mk : Nat → Nat) : Prop where
  sm : ∀ c, sm c = true ↔ ∃ p' i', doneC p i p' i' ∧ InC g w f p' i' c
  mks : ∀ c m, (mk c).testBit m = true ↔ ∃ p' i', doneC p i p' i' ∧ InC g w f p' i' c ∧ (g.edges.getD i' default).marks.toNat.testBit m = true
  lt : ∀ c, mk c < 2 ^ g.sets.toNat
theorem AccC.skip {g : TGen} {w : TWord} {f : Nat → Int} {p i : Nat} {sm : Nat → Bool} {mk : Nat → Nat} (h : AccC g w f p i sm mk) (k : ∀ c, ¬ InC g w f p i c) : AccC g w f p (i + 1) sm mk where
  sm := fun c => by
    rw [h.sm]
    constructor
    · rintro ⟨p', i', hd, hi⟩; exact ⟨p', i', by unfold doneC at hd ⊢; omega, hi⟩
    · rintro ⟨p', i', hd, hi⟩
      refine ⟨p', i', ?_, hi⟩
      have : ¬ (p' = p ∧ i' = i) := fun q => k c (by rw [q.1, q.2] at hi; exact hi)
      unfold doneC at hd ⊢; omega
  mks := fun c m => by
    rw [h.mks]
    constructor
    · rintro ⟨p', i', hd, hi⟩; exact ⟨p', i', by unfold doneC at hd ⊢; omega, hi⟩
    · rintro ⟨p', i', hd, hi⟩
      refine ⟨p', i', ?_, hi⟩
      have : ¬ (p' = p ∧ i' = i) := fun q => k c (by rw [q.1, q.2] at hi; exact hi.1)
      unfold doneC at hd ⊢; omega
  lt := h.lt
theorem AccC.take {g : TGen} {w : TWord} {f : Nat → Int} {p i c : Nat} {sm : Nat → Bool} {mk : Nat → Nat} (h : AccC g w f p i sm mk) (k : InC g w f p i c) (hm : (g.edges.getD i default).marks.toNat < 2 ^ g.sets.toNat) : AccC g w f p (i + 1) (fun j => if j = c then true else sm j) (fun j => if j = c then mk c ||| (g.edges.getD i default).marks.toNat else mk j) where
  sm := fun c' => by
    (try dsimp only)
    by_cases e : c' = c
    · subst e
      rw [if_pos rfl]
      exact ⟨fun _ => ⟨p, i, by unfold doneC; omega, k⟩, fun _ => rfl⟩
    · rw [if_neg e, h.sm]
      constructor
      · rintro ⟨p', i', hd, hi⟩; exact ⟨p', i', by unfold doneC at hd ⊢; omega, hi⟩
      · rintro ⟨p', i', hd, hi⟩
        refine ⟨p', i', ?_, hi⟩
        have : ¬ (p' = p ∧ i' = i) := fun q => by
          rw [q.1, q.2] at hi
          have h1 := hi.2.2.2.1
          have h2 := k.2.2.2.1
          exact e (by omega)
        unfold doneC at hd ⊢; omega
  mks := fun c' m => by
    (try dsimp only)
    by_cases e : c' = c
    · subst e
      rw [if_pos rfl, Nat.testBit_or, Bool.or_eq_true, h.mks]
      constructor
      · rintro (⟨p', i', hd, hi⟩ | hb)
        · exact ⟨p', i', by unfold doneC at hd ⊢; omega, hi⟩
        · exact ⟨p, i, by unfold doneC; omega, k, hb⟩
      · rintro ⟨p', i', hd, hi⟩
        by_cases q : p' = p ∧ i' = i
        · rw [q.2] at hi; exact .inr hi.2
        · exact .inl ⟨p', i', by unfold doneC at hd ⊢; omega, hi⟩
    · rw [if_neg e, h.mks]
      constructor
      · rintro ⟨p', i', hd, hi⟩; exact ⟨p', i', by unfold doneC at hd ⊢; omega, hi⟩
      · rintro ⟨p', i', hd, hi⟩
        refine ⟨p', i', ?_, hi⟩
        have : ¬ (p' = p ∧ i' = i) := fun q => by
          rw [q.1, q.2] at hi
          have h1 := hi.1.2.2.2.1
          have h2 := k.2.2.2.1
          exact e (by omega)
        unfold doneC at hd ⊢; omega
  lt := fun c' => by
    (try dsimp only)
    split
    · exact or_lt' (h.lt _) hm
    · exact h.lt c'
theorem AccC.next {g : TGen} {w : TWord} {f : Nat → Int} {p : Nat} {sm : Nat → Bool} {mk : Nat → Nat} (h : AccC g w f p g.edges.length sm mk) : AccC g w f (p + 1) 0 sm mk where
  sm := fun c => by
    rw [h.sm]
    constructor
    · rintro ⟨p', i', hd, hi⟩; exact ⟨p', i', by unfold doneC at hd ⊢; omega, hi⟩
    · rintro ⟨p', i', hd, hi⟩
      have := hi.2.1
      exact ⟨p', i', by unfold doneC at hd ⊢; omega, hi⟩
  mks := fun c m => by
    rw [h.mks]
    constructor
    · rintro ⟨p', i', hd, hi⟩; exact ⟨p', i', by unfold doneC at hd ⊢; omega, hi⟩
    · rintro ⟨p', i', hd, hi⟩
      have := hi.1.2.1
      exact ⟨p', i', by unfold doneC at hd ⊢; omega, hi⟩
  lt := h.lt
theorem full_iff {x k : Nat} (hx : x < 2 ^ k) : x = 2 ^ k - 1 ↔ ∀ m, m < k → x.testBit m = true := by
  constructor
  · rintro rfl m hm
    rw [Nat.testBit_two_pow_sub_one, decide_eq_true hm]
  · intro h
    refine Nat.eq_of_testBit_eq fun i => ?_
    rw [Nat.testBit_two_pow_sub_one]
    by_cases c : i < k
    · rw [h i c, decide_eq_true c]
    · rw [decide_eq_false c, Nat.testBit_lt_two_pow (Nat.lt_of_lt_of_le hx (Nat.pow_le_pow_right (by omega) (by omega)))]
theorem live_iff {g : TGen} (h : GW g) {w : TWord} (hw : WOk w) {f : Nat → Int} (hf : CompI g w (plN w * g.states.toNat) (plN w * g.states.toNat) f) {sm : Nat → Bool} {mk : Nat → Nat} (hA : AccC g w f (plN w) 0 sm mk) : (∃ c, c < plN w * g.states.toNat ∧ sm c = true ∧ mk c = 2 ^ g.sets.toNat - 1) ↔ LiveW g w := by
  have pts : ∀ p i, p < plN w → i < g.edges.length → p * g.states.toNat + (g.edges.getD i default).from_.toNat < plN w * g.states.toNat ∧ nxN w p * g.states.toNat + (g.edges.getD i default).to_.toNat < plN w * g.states.toNat := fun p i hp hi => by
    have he := h.edge _ (gedge_mem hi)
    exact ⟨pt_lt hp (by omega), pt_lt (nxN_lt hw hp) (by omega)⟩
  have toIn : ∀ {p i c}, InC g w f p i c → InW g w p (g.edges.getD i default) := fun {p i c} hc => by
    obtain ⟨h1, h2, h3, h4, h5⟩ := hc
    obtain ⟨q1, q2⟩ := pts p i h1 h2
    obtain ⟨b, m⟩ := (hf.same q1 q2).mp ⟨by omega, by omega⟩
    exact ⟨h1, gedge_mem h2, h3, b, m⟩
  have ofIn : ∀ {p e}, InW g w p e → ∃ i c, c < plN w * g.states.toNat ∧ g.edges.getD i default = e ∧ InC g w f p i c := fun {p e} hc => by
    obtain ⟨h1, h2, h3, h4, h5⟩ := hc
    obtain ⟨i, hi, rfl⟩ := mem_gedge h2
    obtain ⟨q1, q2⟩ := pts p i h1 hi
    obtain ⟨g1, g2⟩ := (hf.same q1 q2).mpr ⟨h4, h5⟩
    rcases hf.end_ _ q1 with ⟨e1, _⟩ | ⟨z, hz, e1, _⟩
    · omega
    · exact ⟨i, z, hz, rfl, h1, hi, h3, e1, by omega⟩
  constructor
  · rintro ⟨c, hc, s1, s2⟩
    obtain ⟨p, i, _, hI⟩ := (hA.sm c).mp s1
    refine ⟨p, _, toIn hI, fun m hm => ?_⟩
    obtain ⟨p', i', _, hI', hb⟩ := (hA.mks c m).mp ((full_iff (hA.lt c)).mp s2 m hm)
    refine ⟨p', _, toIn hI', ?_, hb⟩
    obtain ⟨q1, _⟩ := pts p i hI.1 hI.2.1
    obtain ⟨q2, _⟩ := pts p' i' hI'.1 hI'.2.1
    have e1 := hI.2.2.2.1
    have e2 := hI'.2.2.2.1
    exact ((hf.same q1 q2).mp ⟨by omega, by omega⟩).2
  · rintro ⟨p, e, hI, hall⟩
    obtain ⟨i, c, hc, rfl, hC⟩ := ofIn hI
    refine ⟨c, hc, (hA.sm c).mpr ⟨p, i, .inl hC.1, hC⟩, (full_iff (hA.lt c)).mpr fun m hm => ?_⟩
    obtain ⟨p', e', hI', hM, hb⟩ := hall m hm
    obtain ⟨i', c', hc', rfl, hC'⟩ := ofIn hI'
    obtain ⟨q1, _⟩ := pts p i hC.1 hC.2.1
    obtain ⟨q2, _⟩ := pts p' i' hC'.1 hC'.2.1
    have hs := ((hf.same q1 q2).mpr ⟨hI.2.2.2.1, hM⟩).2
    have e1 := hC.2.2.2.1
    have e2 := hC'.2.2.2.1
    have : c' = c := by omega
    subst this
    exact (hA.mks _ m).mpr ⟨p', i', .inl hC'.1, hC', hb⟩
theorem shlS {n : Int} (h : 0 ≤ n ∧ n ≤ 31) : W (shl .i64 1 n - 1) = ((2 ^ n.toNat - 1 : Nat) : Int) := by
  have hp := pow31 (n := n.toNat) (by omega)
  have h1 := shl1_i (n := n.toNat) (by omega)
  rw [show ((n.toNat : Nat) : Int) = n by omega] at h1
  rw [h1, W, W_eq (by omega) (by omega)]; omega
/-- What comes behind the tests of the arguments. -/
theorem takes_core {g : TGen} (h : GW g) {w : TWord} (hw : WOk w) : ((spec_l6Comps g w).bind fun a30 => (E.mk 8 (0 : Int) ((a30.length : Int))).bind fun z33 => (E.mk 1 false ((a30.length : Int))).bind fun z36 => (loop (fun s : ((List Int) × (List Bool) × Int) => spec_GenTakes.b1 w g a30 s.1 s.2.1 s.2.2) ((z33, z36, 0))).bind (fun q => spec_GenTakes.k0 g q.1 q.2)) = some (dcW (LiveW g w)) := by
  have hs := h.sts
  have hse := h.sets
  have hn := h.num
  have hw1 := hw.stem
  have hw2 := hw.loop
  have hpl : plN w ≤ 80 := by unfold plN; omega
  have hN : plN w * g.states.toNat ≤ 80 * 31 := Nat.mul_le_mul (by omega) (by omega)
  obtain ⟨f, e1, hf⟩ := comps_ok h hw
  rw [e1, Option.bind_some, T_len, T_mk (by omega), Option.bind_some, T_mk (by omega), Option.bind_some]
  have k1 := loop_inv (body := fun s : List Int × List Bool × Int => spec_GenTakes.b1 w g (T (plN w * g.states.toNat) f) s.1 s.2.1 s.2.2) (fun s => ∃ (p : Nat) (sm : Nat → Bool) (mk : Nat → Nat), s.2.2 = p ∧ p ≤ plN w ∧ s.1 = tN (plN w * g.states.toNat) mk ∧ s.2.1 = T (plN w * g.states.toNat) sm ∧ AccC g w f p 0 sm mk) (fun s => plN w - s.2.2.toNat) (fun r => ∃ (sm : Nat → Bool) (mk : Nat → Nat), r.1 = tN (plN w * g.states.toNat) mk ∧ r.2 = T (plN w * g.states.toNat) sm ∧ AccC g w f (plN w) 0 sm mk) (by
    rintro ⟨y, z, p'⟩ ⟨p, sm, mk, q1, hp, q2, q3, hA⟩
    dsimp only at q1 q2 q3 ⊢
    subst q1 q2 q3
    unfold spec_GenTakes.b1
    rw [l6Places_eq hw]
    by_cases hlt : p < plN w
    · right
      rw [if_pos (by omega)]
      have k2 := loop_inv (body := fun s : List Int × List Bool × Int => spec_GenTakes.b2 g w (p : Int) (T (plN w * g.states.toNat) f) s.1 s.2.1 s.2.2) (fun s => ∃ (i : Nat) (sm : Nat → Bool) (mk : Nat → Nat), s.2.2 = i ∧ i ≤ g.edges.length ∧ s.1 = tN (plN w * g.states.toNat) mk ∧ s.2.1 = T (plN w * g.states.toNat) sm ∧ AccC g w f p i sm mk) (fun s => g.edges.length - s.2.2.toNat) (fun r => ∃ (sm : Nat → Bool) (mk : Nat → Nat), r.1 = tN (plN w * g.states.toNat) mk ∧ r.2 = T (plN w * g.states.toNat) sm ∧ AccC g w f p g.edges.length sm mk) (by
        rintro ⟨y, z, i'⟩ ⟨i, sm, mk, q1, hi, q2, q3, hA⟩
        dsimp only at q1 q2 q3 ⊢
        subst q1 q2 q3
        unfold spec_GenTakes.b2
        by_cases hil : i < g.edges.length
        · right
          have he := h.edge _ (gedge_mem hil)
          have x1 : p * g.states.toNat + (g.edges.getD i default).from_.toNat < plN w * g.states.toNat := pt_lt hlt (by omega)
          have x2 : nxN w p * g.states.toNat + (g.edges.getD i default).to_.toNat < plN w * g.states.toNat := pt_lt (nxN_lt hw hlt) (by omega)
          have hskip : ∀ k : ∀ c, ¬ InC g w f p i c, ∃ s', (some (Sum.inl (tN (plN w * g.states.toNat) mk, T (plN w * g.states.toNat) sm, ((i + 1 : Nat) : Int))) : Option ((List Int × List Bool × Int) ⊕ (List Int × List Bool))) = some (Sum.inl s') ∧ (∃ (i : Nat) (sm : Nat → Bool) (mk : Nat → Nat), s'.2.2 = i ∧ i ≤ g.edges.length ∧ s'.1 = tN (plN w * g.states.toNat) mk ∧ s'.2.1 = T (plN w * g.states.toNat) sm ∧ AccC g w f p i sm mk) ∧ g.edges.length - s'.2.2.toNat < g.edges.length - ((i : Nat) : Int).toNat := fun k => ⟨_, rfl, ⟨i + 1, sm, mk, rfl, hil, rfl, rfl, hA.skip k⟩, by dsimp only; omega⟩
          have wW : ∀ (a : Nat) (b : Int), a ≤ 80 → 0 ≤ b → b < g.states → W (W ((a : Int) * g.states) + b) = ((a * g.states.toNat + b.toNat : Nat) : Int) := fun a b ha hb0 hb1 => by
            have hm : a * g.states.toNat ≤ 80 * 31 := Nat.mul_le_mul (by omega) (by omega)
            have em : (a : Int) * g.states = ((a * g.states.toNat : Nat) : Int) := by rw [show g.states = ((g.states.toNat : Nat) : Int) by omega]; simp
            rw [em, show W ((a * g.states.toNat : Nat) : Int) = ((a * g.states.toNat : Nat) : Int) from W_eq (by omega) (by omega), W, W_eq (by omega) (by omega)]; omega
          have hnx := nxN_lt hw hlt
          rw [if_pos (by omega), ix_nat hil, Option.bind_some, l3At_eq hw hlt, Option.bind_some, WN (by omega), bnd_eq, wW p _ (by omega) (by omega) (by omega), l6After_eq hw hlt, wW (nxN w p) _ (by omega) (by omega) (by omega), T_ix x1, T_ix x2]
          generalize heq : g.edges.getD i default = e at he x1 x2 hskip
          by_cases cl : e.letter = (letN w p : Int)
          · rw [decide_eq_true cl, whenO_t, Option.bind_some, bnd_eq, Bool.true_and]
            by_cases c0 : f (p * g.states.toNat + e.from_.toNat) ≥ 0
            · rw [decide_eq_true c0, whenO_t, Option.bind_some, whenO_t, Option.bind_some, Bool.true_and]
              by_cases c1 : f (p * g.states.toNat + e.from_.toNat) = f (nxN w p * g.states.toNat + e.to_.toNat)
              · rw [if_pos (by simpa using c1)]
                simp only [Option.bind_some]
                rcases hf.end_ _ x1 with ⟨e1, _⟩ | ⟨c, hc, e1, _⟩
                · omega
                · have hI : InC g w f p i c := ⟨hlt, hil, by rw [heq]; omega, by rw [heq]; exact e1, by rw [heq]; omega⟩
                  have hm : e.marks.toNat < 2 ^ g.sets.toNat := by omega
                  have hor : bOr .i64 ((mk c : Nat) : Int) e.marks = ((mk c ||| e.marks.toNat : Nat) : Int) := by
                    have := or_lt31 (by omega) (hA.lt c) hm
                    rw [show ((e.marks.toNat : Nat) : Int) = e.marks by omega] at this
                    exact this
                  have ht := hA.take hI (by rw [heq]; exact hm)
                  rw [heq] at ht
                  rw [e1, T_ck hc, Option.bind_some, T_ix hc, Option.bind_some, T_ck hc, Option.bind_some, hor, T_set, T_set]
                  refine ⟨_, rfl, ⟨i + 1, _, _, rfl, hil, T_congr fun j _ => ?_, rfl, ht⟩, by dsimp only; omega⟩
                  (try dsimp only)
                  split <;> rfl
              · rw [if_neg (by simpa using c1)]
                exact hskip fun c hc => by
                  have h4 := hc.2.2.2.1; have h5 := hc.2.2.2.2
                  rw [heq] at h4 h5
                  exact c1 (by omega)
            · rw [decide_eq_false c0, whenO_f, Option.bind_some, whenO_f, Option.bind_some, Bool.false_and, if_neg (by simp)]
              exact hskip fun c hc => by
                have h4 := hc.2.2.2.1
                rw [heq] at h4
                omega
          · rw [decide_eq_false cl, whenO_f, Option.bind_some, bnd_eq, Bool.false_and, whenO_f, Option.bind_some, whenO_f, Option.bind_some, Bool.false_and, if_neg (by simp)]
            exact hskip fun c hc => by
              have h3 := hc.2.2.1
              rw [heq] at h3
              omega
        · left
          rw [if_neg (by omega)]
          have : i = g.edges.length := by omega
          subst this
          exact ⟨_, rfl, sm, mk, rfl, rfl, hA⟩) (s := (tN (plN w * g.states.toNat) mk, T (plN w * g.states.toNat) sm, 0)) ⟨0, sm, mk, rfl, Nat.zero_le _, rfl, rfl, hA⟩
      obtain ⟨⟨r1, r2⟩, k2e, sm', mk', f1, f2, hA'⟩ := k2
      dsimp only at f1 f2
      subst f1 f2
      rw [k2e, Option.bind_some]
      unfold spec_GenTakes.k2
      rw [WN (by omega)]
      exact ⟨_, rfl, ⟨p + 1, sm', mk', rfl, hlt, rfl, rfl, hA'.next⟩, by dsimp only; omega⟩
    · left
      rw [if_neg (by omega)]
      have : p = plN w := by omega
      subst this
      exact ⟨_, rfl, sm, mk, rfl, rfl, hA⟩) (s := (T (plN w * g.states.toNat) fun _ => (0 : Int), T (plN w * g.states.toNat) fun _ => false, 0)) ⟨0, fun _ => false, fun _ => 0, rfl, Nat.zero_le _, rfl, rfl, ⟨fun c => ⟨fun q => (by cases q), fun ⟨p', i', hd, _⟩ => (by unfold doneC at hd; omega)⟩, fun c m => ⟨fun q => (by rw [Nat.zero_testBit] at q; cases q), fun ⟨p', i', hd, _⟩ => (by unfold doneC at hd; omega)⟩, fun _ => Nat.two_pow_pos _⟩⟩
  obtain ⟨⟨r1, r2⟩, k1e, sm, mk, f1, f2, hA⟩ := k1
  dsimp only at f1 f2
  subst f1 f2
  rw [k1e, Option.bind_some]
  unfold spec_GenTakes.k0
  have k4 := any_loopW (body := fun s : Int => spec_GenTakes.b0 (tN (plN w * g.states.toNat) mk) (T (plN w * g.states.toNat) sm) g s) (plN w * g.states.toNat) (fun c => sm c = true ∧ mk c = 2 ^ g.sets.toNat - 1) (fun k hk => by
    (try dsimp only)
    unfold spec_GenTakes.b0
    rw [T_len, if_pos (by omega), T_ix hk, Option.bind_some, shlS (by omega), decide_eq_true (show 0 ≤ g.sets by omega), chk_t, T_ix hk, WN (by omega)]
    by_cases c1 : sm k = true
    · rw [c1, whenO_t, Option.bind_some, whenO_t, Option.bind_some, Bool.true_and]
      by_cases c2 : mk k = 2 ^ g.sets.toNat - 1
      · exact .inl ⟨⟨rfl, c2⟩, by rw [if_pos (by rw [decide_eq_true_eq, c2])]⟩
      · exact .inr ⟨fun q => c2 q.2, by rw [if_neg (by rw [decide_eq_true_eq]; omega)]⟩
    · rw [Bool.eq_false_iff.mpr c1, whenO_f, Option.bind_some, whenO_f, Option.bind_some, Bool.false_and]
      exact .inr ⟨fun q => (by cases q.1), by rw [if_neg (by simp)]⟩) (by
    (try dsimp only)
    unfold spec_GenTakes.b0
    rw [T_len, if_neg (by omega)])
  rw [k4, Option.bind_some]
  have hl := live_iff h hw hf hA
  by_cases c : LiveW g w
  · have e1 : dcW (∃ k, k < plN w * g.states.toNat ∧ sm k = true ∧ mk k = 2 ^ g.sets.toNat - 1) = true := dcW_t (hl.mpr c)
    rw [e1, dcW_t c]; rfl
  · have e1 : dcW (∃ k, k < plN w * g.states.toNat ∧ sm k = true ∧ mk k = 2 ^ g.sets.toNat - 1) = false := dcW_f (fun q => c (hl.mp q))
    rw [e1, dcW_f c]; rfl
end Go.Proofs.Ythdclobnmicdaaa
end

/- What words an automaton of many marks takes, by the reference. -/
section
namespace Go.Proofs.Ythdclobnmicdaaa
open Go Go.RowKit E
set_option linter.unusedVariables false

noncomputable def genTakes (g : TGen) (w : TWord) : Bool := genOk g && (wordOk w g.letters && (decide (g.states ≠ 0) && dcW (LiveW g w)))
theorem specGenTakes_eq (g : TGen) (w : TWord) : spec_GenTakes g w = some (genTakes g w) := by
  unfold spec_GenTakes genTakes
  rw [specGenOk_eq, Option.bind_some, specWordOk_eq]
  simp only [bnd_eq]
  by_cases h1 : genOk g = true
  · rw [h1, Bool.not_true, Bool.not_false, whenO_t, Option.bind_some, Bool.false_or, Bool.true_and]
    by_cases h2 : wordOk w g.letters = true
    · rw [h2, Bool.not_true, Bool.false_or, Bool.true_and]
      by_cases h3 : g.states = 0
      · rw [if_pos (by simpa using h3), decide_eq_false (fun k => k h3), Bool.false_and]
      · have hw := (wordOk_t h2).1
        have hg := genOk_W h1 h3
        rw [if_neg (by simpa using h3), decide_eq_true h3, Bool.true_and]
        exact takes_core hg hw
    · rw [Bool.eq_false_iff.mpr h2]; rfl
  · rw [Bool.eq_false_iff.mpr h1]; rfl
end Go.Proofs.Ythdclobnmicdaaa
end

/- Which automata of many marks the program finds right. -/
section
namespace Go.Proofs.Ythdclobnmicdaaa
open Go Go.RowKit E
set_option linter.unusedVariables false

theorem compareG_eq (a b : TGEdge) : ∃ x, impl_compareGEdges a b = some x ∧ decide (x ≥ 0) = !(edgeLt (gEdge a) (gEdge b)) := by
  unfold impl_compareGEdges
  rw [cmpOr_eq, Option.bind_some]
  refine ⟨_, rfl, ?_⟩
  rw [cmpInt_eq, cmpInt_eq, cmpInt_eq]
  unfold edgeLt gEdge
  rw [Bool.eq_iff_iff, decide_eq_true_eq, Bool.not_eq_true', decide_eq_false_iff_not]
  dsimp only
  repeat' split
  all_goals omega
theorem implGEdge_eq (a : TGen) (h : gheadOk a = true) {k : Nat} (hk : k < a.edges.length) : impl_GenOk.b0 a (k : Int) = some (if gedgeOk a k = true then .inl ((k + 1 : Nat) : Int) else .inr (.inr false)) := by
  obtain ⟨h1, h2, h3, h5, h4⟩ := gheadOk_t h
  unfold impl_GenOk.b0 gedgeOk
  have w1 : W (a.states - 1) = a.states - 1 := W_eq (by omega) (by omega)
  have w2 : W (a.letters - 1) = a.letters - 1 := W_eq (by omega) (by omega)
  have ho := only_eq (n := a.sets.toNat) (by omega)
  rw [show ((a.sets.toNat : Nat) : Int) = a.sets by omega] at ho
  have hp := pow31 (n := a.sets.toNat) (by omega)
  have w3 : W (((2 ^ a.sets.toNat : Nat) : Int) - 1) = ((2 ^ a.sets.toNat : Nat) : Int) - 1 := by
    generalize 2 ^ a.sets.toNat = y at hp ⊢
    exact W_eq (by omega) (by omega)
  simp only [bnd_eq, inRg, w1, w2, ho, w3]
  rw [if_pos (by omega), ix_nat hk, Option.bind_some, WN (by omega)]
  generalize a.edges.getD k default = e
  by_cases c1 : 0 ≤ e.from_ ∧ e.from_ ≤ a.states - 1
  · by_cases c2 : 0 ≤ e.to_ ∧ e.to_ ≤ a.states - 1
    · by_cases c3 : 0 ≤ e.letter ∧ e.letter ≤ a.letters - 1
      · rw [decide_eq_true c1, decide_eq_true c2, decide_eq_true c3, if_neg (by simp)]
        by_cases c5 : 0 ≤ e.marks ∧ e.marks < ((2 ^ a.sets.toNat : Nat) : Int)
        · rw [decide_eq_true c5, decide_eq_true (show 0 ≤ e.marks ∧ e.marks ≤ ((2 ^ a.sets.toNat : Nat) : Int) - 1 by omega)]
          by_cases c4 : k = 0
          · subst c4; rfl
          · rw [decide_eq_true (by omega : (k : Int) > 0), decide_eq_false c4]
            have e1 : W ((k : Int) - 1) = ((k - 1 : Nat) : Int) := by rw [W, W_eq (by omega) (by omega)]; omega
            rw [e1, ix_nat (by omega)]
            obtain ⟨x, x1, x2⟩ := compareG_eq (a.edges.getD (k - 1) default) e
            simp only [Bool.not_true, Bool.or_self, Bool.not_false, Bool.and_self, whenO_t, Option.bind_some, Bool.false_or, Bool.true_and, x1, x2]
            cases edgeLt (gEdge (a.edges.getD (k - 1) default)) (gEdge e) <;> rfl
        · rw [decide_eq_false c5, decide_eq_false (show ¬ (0 ≤ e.marks ∧ e.marks ≤ ((2 ^ a.sets.toNat : Nat) : Int) - 1) by omega)]; simp [whenO]
      · rw [decide_eq_false c3]; simp
    · rw [decide_eq_false c2]; simp
  · rw [decide_eq_false c1]; simp
theorem implGenOk_eq (a : TGen) : impl_GenOk a = some (genOk a) := by
  have hd : ((impl_headOk a.letters a.states a.start && impl_inRange a.sets 0 4) && decide (a.edges.length ≤ 2000)) = gheadOk a := by
    unfold impl_headOk gheadOk impl_isLetters impl_SetOk
    simp only [bnd_eq, inRg]
    by_cases h2 : 0 ≤ a.states ∧ a.states ≤ 31
    · have ho := only_eq (n := a.states.toNat) (by omega)
      rw [show ((a.states.toNat : Nat) : Int) = a.states by omega] at ho
      have hp := pow31 (n := a.states.toNat) (by omega)
      rw [ho]
      congr 2
      rw [Bool.and_assoc]
      congr 1
      rw [← Bool.decide_and, decide_eq_decide]
      omega
    · rw [decide_eq_false h2]; simp
  unfold impl_GenOk genOk
  simp only [bnd_eq]
  by_cases hg : gheadOk a = true
  · rw [hg] at hd
    simp only [Bool.and_eq_true, decide_eq_true_eq] at hd
    obtain ⟨⟨d1, d2⟩, d3⟩ := hd
    rw [d1, d2, decide_eq_false (by omega : ¬ (a.edges.length : Int) > 2000), if_neg (by simp), hg, Bool.true_and, all_loop a.edges.length (gedgeOk a) (fun k hk => implGEdge_eq a hg hk) (by unfold impl_GenOk.b0; rw [if_neg (by omega)]), Option.bind_some]
    cases (List.range a.edges.length).all (gedgeOk a) <;> rfl
  · have hgf : gheadOk a = false := Bool.eq_false_iff.mpr hg
    rw [hgf, Bool.false_and, if_pos]
    rw [hgf] at hd
    by_cases l : a.edges.length ≤ 2000
    · rw [decide_eq_true l, Bool.and_true] at hd
      cases d1 : impl_headOk a.letters a.states a.start with
      | false => simp
      | true => rw [d1, Bool.true_and] at hd; rw [hd]; simp
    · rw [decide_eq_true (by omega : (a.edges.length : Int) > 2000)]; simp
end Go.Proofs.Ythdclobnmicdaaa
end

/- Members of sets, by the program. -/
section
namespace Go.Proofs.Ythdclobnmicdaaa
open Go Go.RowKit E
set_option linter.unusedVariables false

theorem has_eq {s : Nat} (hs : s < 2 ^ 31) {x : Int} (h : 0 ≤ x ∧ x ≤ 30) : impl_has (s : Int) x = s.testBit x.toNat := by
  unfold impl_has
  have h31 : (2 : Nat) ^ 31 = 2147483648 := rfl
  obtain ⟨y, rfl⟩ : ∃ y : Nat, x = y := ⟨x.toNat, by omega⟩
  rw [u64_nat (by omega), bit_i (by omega) (by omega), Int.toNat_natCast]
end Go.Proofs.Ythdclobnmicdaaa
end

/- The members of a set in order, as numbers. -/
section
namespace Go.Proofs.Ythdclobnmicdaaa
open Go Go.RowKit E
set_option linter.unusedVariables false

def wasN (S n : Nat) : List Nat := (List.range n).filter fun s => S.testBit s
theorem wasN_succ (S n : Nat) : wasN S (n + 1) = if S.testBit n = true then wasN S n ++ [n] else wasN S n := by
  unfold wasN
  rw [List.range_succ, List.filter_append]
  by_cases h : S.testBit n = true
  · rw [if_pos h, List.filter_cons_of_pos h]; rfl
  · rw [if_neg h, List.filter_cons_of_neg h]; simp
theorem wasN_len (S n : Nat) : (wasN S n).length ≤ n := Nat.le_trans (List.length_filter_le _ _) (by simp)
theorem wasN_mem {S n s : Nat} : s ∈ wasN S n ↔ s < n ∧ S.testBit s = true := by unfold wasN; rw [List.mem_filter, List.mem_range]
theorem wasN_nodup (S n : Nat) : (wasN S n).Nodup := List.Pairwise.filter _ List.nodup_range
theorem setListN_eq {S n : Nat} (hn : n ≤ 31) (hS : S < 2 ^ n) : impl_SetList (S : Int) = some ((wasN S n).map fun v : Nat => (v : Int)) := by
  have h31 : (2 : Nat) ^ 31 = 2147483648 := rfl
  have hSl := lt31 hn hS
  have hw : wasN S 31 = wasN S n := by
    have : ∀ d, n + d ≤ 31 → wasN S (n + d) = wasN S n := by
      intro d
      induction d with
      | zero => intro _; rfl
      | succ d ih =>
        intro hd
        rw [← Nat.add_assoc, wasN_succ, if_neg, ih (by omega)]
        rw [Nat.testBit_lt_two_pow (Nat.lt_of_lt_of_le hS (Nat.pow_le_pow_right (by omega) (by omega)))]
        simp
    have := this (31 - n) (by omega)
    rwa [show n + (31 - n) = 31 by omega] at this
  unfold impl_SetList
  rw [if_neg (by unfold impl_SetOk; rw [inRg]; simp; omega)]
  have L := loop_up (body := fun s : List Int × Int => impl_SetList.b0 (S : Int) s.1 s.2) 31 (fun k => ((wasN S k).map (fun v : Nat => (v : Int)), (k : Int))) ((wasN S 31).map fun v : Nat => (v : Int)) (fun k hk => ?_) ?_ 0 (Nat.zero_le _)
  · have L' : loop (fun s : List Int × Int => impl_SetList.b0 (S : Int) s.1 s.2) ([], 0) = _ := L
    rw [L', Option.bind_some, hw]; rfl
  · dsimp only
    unfold impl_SetList.b0
    have hr := wasN_len S k
    rw [if_pos (by omega), has_eq hSl (by omega), Int.toNat_natCast, wasN_succ]
    split
    · rw [app_small (by simp; omega) (by decide), Option.bind_some, WN (by omega), List.map_append]; rfl
    · rw [WN (by omega)]
  · dsimp only
    unfold impl_SetList.b0
    rw [if_neg (by omega)]
end Go.Proofs.Ythdclobnmicdaaa
end

/- Whether steps lead to a ring with all marks: what the program's count comes to. -/
section
namespace Go.Proofs.Ythdclobnmicdaaa
open Go Go.RowKit E
set_option linter.unusedVariables false

theorem Rch_congr {adj adj' : Nat → List Nat} {n : Nat} (hadj : ∀ a, a < n → ∀ b ∈ adj a, b < n) (h : ∀ a, a < n → ∀ b, b ∈ adj a → b ∈ adj' a) {a b : Nat} (hr : Rch adj a b) : a < n → Rch adj' a b := by
  induction hr with
  | refl a => exact fun _ => .refl a
  | head hb _ ih => exact fun ha => .head (h _ ha _ hb) (ih (hadj _ ha _ hb))
/-- A step counts. -/
def counts (far rings : List Int) (p : Nat) (s : Tstep) : Prop := far.getD p default ≥ 0 ∧ rings.getD p default = rings.getD s.to_.toNat default
theorem livesAt_eq {far rings : List Int} {next : List (List Tstep)} {n p : Nat} {s : Tstep} (hf : far.length = n) (hr : rings.length = n) (hp : p < n) (hs : 0 ≤ s.to_ ∧ s.to_ < n) : ∃ t, livesAt far rings next p s = some t ∧ (t = true ↔ counts far rings p s) := by
  unfold livesAt counts
  rw [ix_nat (by omega), Option.bind_some]
  have e : s.to_ = ((s.to_.toNat : Nat) : Int) := by omega
  by_cases c : far.getD p default ≥ 0
  · rw [decide_eq_true c, whenO_t, ix_nat (by omega), Option.bind_some, whenO_t, e, ix_nat (by omega), Option.bind_some]
    refine ⟨_, rfl, ?_⟩
    rw [Bool.true_and, decide_eq_true_eq, Int.toNat_natCast]
    exact ⟨fun k => ⟨c, k⟩, fun k => k.2⟩
  · rw [decide_eq_false c, whenO_f, Option.bind_some, whenO_f, Option.bind_some]
    exact ⟨_, rfl, ⟨fun k => by simp at k, fun k => absurd k.1 c⟩⟩
theorem livesRow_ok {far rings : List Int} {next : List (List Tstep)} {n p : Nat} (hf : far.length = n) (hr : rings.length = n) (hk : ∀ v, v < n → 0 ≤ rings.getD v default ∧ rings.getD v default ≤ 1000000) (hp : p < n) : ∀ (l : List Tstep) (m : List (Int × Int)), (∀ s ∈ l, 0 ≤ s.to_ ∧ s.to_ < n) → m.length + l.length ≤ 4611686018427387903 → ∃ m', livesRow far rings next p l m = some m' ∧ m'.length ≤ m.length + l.length ∧ ∀ x, x ∈ m' ↔ x ∈ m ∨ ∃ s ∈ l, counts far rings p s ∧ x = (rings.getD p default, s.marks)
  | [], m, _, _ => ⟨m, rfl, Nat.le_refl _, fun x => ⟨.inl, fun h => h.elim id (fun ⟨s, hs, _⟩ => by cases hs)⟩⟩
  | s :: l, m, h, hl => by
    rw [List.length_cons] at hl
    obtain ⟨t, e, ht⟩ := livesAt_eq (next := next) hf hr hp (h s List.mem_cons_self)
    show ∃ m', ((livesAt far rings next p s).bind fun t => if t = true then (ix rings (p : Int)).bind fun k => (if (-9223372036854775808 ≤ k ∧ k ≤ 9223372036854775807) ∧ m.length < 4611686018427387904 then livesRow far rings next p l (m ++ [(k, s.marks)]) else none) else livesRow far rings next p l m) = some m' ∧ _
    rw [e, Option.bind_some]
    have hl' := fun s hs => h s (List.mem_cons_of_mem _ hs)
    have hkp := hk p hp
    by_cases c : t = true
    · obtain ⟨m', e', hml, hm⟩ := livesRow_ok hf hr hk hp l (m ++ [(rings.getD p default, s.marks)]) hl' (by rw [List.length_append, List.length_singleton]; omega)
      rw [List.length_append, List.length_singleton] at hml
      rw [if_pos c, ix_nat (by omega), Option.bind_some, if_pos ⟨by omega, by omega⟩, e']
      refine ⟨m', rfl, by rw [List.length_cons]; omega, fun x => ?_⟩
      rw [hm, List.mem_append, List.mem_singleton]
      constructor
      · rintro ((h1 | h1) | ⟨s', h1, h2⟩)
        · exact .inl h1
        · exact .inr ⟨s, List.mem_cons_self, ht.mp c, h1⟩
        · exact .inr ⟨s', List.mem_cons_of_mem _ h1, h2⟩
      · rintro (h1 | ⟨s', h1, h2, h3⟩)
        · exact .inl (.inl h1)
        · rcases List.mem_cons.mp h1 with rfl | h1
          · exact .inl (.inr h3)
          · exact .inr ⟨s', h1, h2, h3⟩
    · obtain ⟨m', e', hml, hm⟩ := livesRow_ok hf hr hk hp l m hl' (by omega)
      rw [if_neg c, e']
      refine ⟨m', rfl, by rw [List.length_cons]; omega, fun x => ?_⟩
      rw [hm]
      constructor
      · rintro (h1 | ⟨s', h1, h2⟩)
        · exact .inl h1
        · exact .inr ⟨s', List.mem_cons_of_mem _ h1, h2⟩
      · rintro (h1 | ⟨s', h1, h2, h3⟩)
        · exact .inl h1
        · rcases List.mem_cons.mp h1 with rfl | h1
          · exact absurd (ht.mpr h2) c
          · exact .inr ⟨s', h1, h2, h3⟩
theorem livesAll_ok {far rings : List Int} {next : List (List Tstep)} {n : Nat} (hf : far.length = n) (hr : rings.length = n) (hk : ∀ v, v < n → 0 ≤ rings.getD v default ∧ rings.getD v default ≤ 1000000) (hn : n ≤ 4611686018427387904) : ∀ (L : List (List Tstep)) (p : Nat) (m : List (Int × Int)), p + L.length = n → (∀ l ∈ L, ∀ s ∈ l, 0 ≤ s.to_ ∧ s.to_ < n) → (∀ l ∈ L, l.length ≤ 1000000) → m.length + L.length * 1000000 ≤ 4611686018427387903 → ∃ m', livesAll far rings next p L m = some m' ∧ ∀ x, x ∈ m' ↔ x ∈ m ∨ ∃ q, q < L.length ∧ ∃ s ∈ L.getD q default, counts far rings (p + q) s ∧ x = (rings.getD (p + q) default, s.marks)
  | [], p, m, _, _, _, _ => ⟨m, rfl, fun x => ⟨.inl, fun h => h.elim id (fun ⟨q, hq, _⟩ => by cases hq)⟩⟩
  | l :: L, p, m, hp, h, hrow, hb => by
    have hp : p + (L.length + 1) = n := hp
    rw [List.length_cons] at hb
    have hl := hrow l List.mem_cons_self
    obtain ⟨m1, e1, hml, h1⟩ := livesRow_ok (next := next) hf hr hk (p := p) (by omega) l m (h l List.mem_cons_self) (by omega)
    obtain ⟨m2, e2, h2⟩ := livesAll_ok (next := next) hf hr hk hn L (p + 1) m1 (by omega) (fun l' hl' => h l' (List.mem_cons_of_mem _ hl')) (fun l' hl' => hrow l' (List.mem_cons_of_mem _ hl')) (by omega)
    show ∃ m', (if p < 4611686018427387904 ∧ l.length < 4611686018427387904 then (livesRow far rings next p l m).bind fun m' => livesAll far rings next (p + 1) L m' else none) = some m' ∧ _
    rw [if_pos ⟨by omega, by omega⟩, e1, Option.bind_some, e2]
    refine ⟨m2, rfl, fun x => ?_⟩
    rw [h2, h1]
    constructor
    · rintro ((k | ⟨s, k1, k2⟩) | ⟨q, k1, s, k2, k3⟩)
      · exact .inl k
      · exact .inr ⟨0, Nat.succ_pos _, s, k1, k2⟩
      · refine .inr ⟨q + 1, Nat.succ_lt_succ k1, s, k2, ?_⟩
        rw [show p + (q + 1) = p + 1 + q by omega]; exact k3
    · rintro (k | ⟨q, k1, s, k2, k3⟩)
      · exact .inl (.inl k)
      · rcases q with _ | q
        · exact .inl (.inr ⟨s, k2, k3⟩)
        · refine .inr ⟨q, Nat.lt_of_succ_lt_succ k1, s, k2, ?_⟩
          rw [show p + (q + 1) = p + 1 + q by omega] at k3; exact k3
theorem foldM : ∀ (l : List (Int × Int)) (a : Nat), a < 16 → (∀ x ∈ l, 0 ≤ x.2 ∧ x.2 < 16) → ∃ b : Nat, l.foldl (fun a x => bOr .i64 a x.2) (a : Int) = (b : Int) ∧ b < 16 ∧ ∀ i, b.testBit i = true ↔ a.testBit i = true ∨ ∃ x ∈ l, x.2.toNat.testBit i = true
  | [], a, ha, _ => ⟨a, rfl, ha, fun i => ⟨.inl, fun h => h.elim id (fun ⟨x, hx, _⟩ => by cases hx)⟩⟩
  | x :: l, a, ha, h => by
    have hx := h x List.mem_cons_self
    have e : bOr .i64 (a : Int) x.2 = ((a ||| x.2.toNat : Nat) : Int) := by
      rw [show x.2 = ((x.2.toNat : Nat) : Int) by omega, bOr_i (by omega) (by omega)]; rfl
    obtain ⟨b, e1, hb, hi⟩ := foldM l (a ||| x.2.toNat) (Nat.or_lt_two_pow (n := 4) ha (by omega)) fun y hy => h y (List.mem_cons_of_mem _ hy)
    refine ⟨b, by rw [List.foldl_cons, e]; exact e1, hb, fun i => ?_⟩
    rw [hi, Nat.testBit_or, Bool.or_eq_true]
    constructor
    · rintro ((k | k) | ⟨y, k1, k2⟩)
      · exact .inl k
      · exact .inr ⟨x, List.mem_cons_self, k⟩
      · exact .inr ⟨y, List.mem_cons_of_mem _ k1, k2⟩
    · rintro (k | ⟨y, k1, k2⟩)
      · exact .inl (.inl k)
      · rcases List.mem_cons.mp k1 with rfl | k1
        · exact .inl (.inr k2)
        · exact .inr ⟨y, k1, k2⟩
theorem marksOf_ok {m : List (Int × Int)} (h : ∀ x ∈ m, 0 ≤ x.2 ∧ x.2 < 16) (k : Int) : ∃ b : Nat, marksOf m k = (b : Int) ∧ b < 16 ∧ ∀ i, b.testBit i = true ↔ ∃ x ∈ m, x.1 = k ∧ x.2.toNat.testBit i = true := by
  unfold marksOf
  obtain ⟨b, e, hb, hi⟩ := foldM (m.filter fun x => decide (x.1 = k)) 0 (by decide) fun x hx => h x (List.mem_filter.mp hx).1
  refine ⟨b, e, hb, fun i => ?_⟩
  rw [hi, Nat.zero_testBit]
  constructor
  · rintro (k | ⟨x, h1, h2⟩)
    · cases k
    · obtain ⟨h3, h4⟩ := List.mem_filter.mp h1
      exact ⟨x, h3, by simpa using h4, h2⟩
  · rintro ⟨x, h1, h2, h3⟩
    exact .inr ⟨x, List.mem_filter.mpr ⟨h1, by simpa using h2⟩, h3⟩
theorem isIn_tab : ∀ k, k < 5 → ∀ b, b < 16 → impl_isIn ((2 ^ k - 1 : Nat) : Int) ((b : Nat) : Int) = (List.range k).all fun i => b.testBit i := by
  unfold impl_isIn
  decide
theorem isIn_iff {k b : Nat} (hk : k ≤ 4) (hb : b < 16) : impl_isIn ((2 ^ k - 1 : Nat) : Int) (b : Int) = true ↔ ∀ i, i < k → b.testBit i = true := by
  rw [isIn_tab k (by omega) b hb, List.all_eq_true]
  exact ⟨fun h i hi => h i (List.mem_range.mpr hi), fun h i hi => h i (List.mem_range.mp hi)⟩
end Go.Proofs.Ythdclobnmicdaaa
end

/- What words an automaton of many marks takes, by the program. -/
section
namespace Go.Proofs.Ythdclobnmicdaaa
open Go Go.RowKit E
set_option linter.unusedVariables false

theorem lives_ok {g : TGen} (h : GW g) {w : TWord} (hw : WOk w) : impl_graph_lives ⟨buildG (plN w * g.states.toNat) (stepsW w g.states.toNat g.edges)⟩ (ints (wasN g.start.toNat g.states.toNat)) ((2 ^ g.sets.toNat - 1 : Nat) : Int) = some (dcW (LiveW g w)) := by
  have hS := h.sts
  have hone := hw.one
  have hsets := h.sets
  have hps := pS_le hw (S := g.states.toNat) (by omega)
  have hlen := buildG_len (plN w * g.states.toNat) (stepsW w g.states.toNat g.edges)
  have hG := points_ok h hw
  have ht : total (buildG (plN w * g.states.toNat) (stepsW w g.states.toNat g.edges)) ≤ 1000000 := by
    have h1 := stepsB_len (stepsW_from h hw)
    have h2 := stepsW_len h hw
    omega
  have hadj : ∀ a, a < plN w * g.states.toNat → ∀ b, b ∈ adjG (buildG (plN w * g.states.toNat) (stepsW w g.states.toNat g.edges)) a ↔ b ∈ adjW g w a := fun a ha b => points_adj h hw ha b
  have hget : ∀ v, (buildG (plN w * g.states.toNat) (stepsW w g.states.toNat g.edges)).getD v default = ((stepsW w g.states.toNat g.edges).filter fun x => decide (x.1 = v)).map (·.2) := fun v => buildG_get (stepsW_from h hw) v
  generalize buildG (plN w * g.states.toNat) (stepsW w g.states.toNat g.edges) = G at hlen hG ht hadj hget
  have hcl : ∀ a, a < plN w * g.states.toNat → ∀ b ∈ adjG G a, b < plN w * g.states.toNat := fun a ha b hb => by
    have := hG.adj a (by omega) b hb
    omega
  have hclW : ∀ a, a < plN w * g.states.toNat → ∀ b ∈ adjW g w a, b < plN w * g.states.toNat := fun a ha b hb => hcl a ha b ((hadj a ha b).mpr hb)
  have rch : ∀ a b, a < plN w * g.states.toNat → (Rch (adjG G) a b ↔ Rch (adjW g w) a b) := fun a b ha =>
    ⟨fun k => Rch_congr hcl (fun a ha b hb => (hadj a ha b).mp hb) k ha, fun k => Rch_congr hclW (fun a ha b hb => (hadj a ha b).mpr hb) k ha⟩
  have hsm : g.states.toNat ≤ plN w * g.states.toNat := by
    have : 1 * g.states.toNat ≤ plN w * g.states.toNat := Nat.mul_le_mul_right _ (by unfold plN; omega)
    omega
  obtain ⟨far, e1, hF⟩ := far_eq hG (src := wasN g.start.toNat g.states.toNat) (fun a ha => by have := (wasN_mem.mp ha).1; omega) (by have := wasN_len g.start.toNat g.states.toNat; omega)
  obtain ⟨rings, e2, hR⟩ := rings_eq hG (back_eq hG ht) (back_ok hG ht) (buildG_len _ _) (fun p u hp hu => back_adj hG hp hu)
  obtain ⟨m, e3, hm⟩ := livesAll_ok (next := G) (n := G.length) hF.len hR.len (fun v hv => by have := hR.pos v hv; omega) (by omega) G 0 [] (by omega) (fun l hl s hs => by
    obtain ⟨q, hq, rfl⟩ := List.getElem_of_mem hl
    have := hG.to_ q hq s (by rw [List.getD_eq_getElem?_getD, List.getElem?_eq_getElem hq]; exact hs)
    exact this) (fun l hl => by
    obtain ⟨q, hq, rfl⟩ := List.getElem_of_mem hl
    have := hG.row q hq
    rw [List.getD_eq_getElem?_getD, List.getElem?_eq_getElem hq] at this
    exact this) (by rw [List.length_nil]; omega)
  unfold impl_graph_lives
  dsimp only
  rw [e1, Option.bind_some, e2, Option.bind_some, e3, Option.bind_some]
  -- what is reached
  have far_iff : ∀ x, x < plN w * g.states.toNat → (far.getD x default ≥ 0 ↔ Begun g w x) := fun x hx => by
    unfold Begun
    rcases hF.val x (by omega) with ⟨v1, v2⟩ | ⟨d, v1, ⟨s, v2, v3⟩, _⟩
    · constructor
      · intro k; omega
      · rintro ⟨s, k1, k2⟩
        have hs : s < g.states.toNat := bit_lt' (x := g.start.toNat) (by have := h.start; omega) k1
        exact absurd ((rch s x (by omega)).mpr k2) (v2 s (wasN_mem.mpr ⟨hs, k1⟩))
    · constructor
      · intro _
        obtain ⟨k1, k2⟩ := wasN_mem.mp v2
        exact ⟨s, k2, (rch s x (by omega)).mp v3.rch⟩
      · intro _; omega
  have ring_iff : ∀ x y, x < plN w * g.states.toNat → y < plN w * g.states.toNat → (rings.getD x default = rings.getD y default ↔ Mut (adjW g w) x y) := fun x y hx hy => by
    rw [hR.iff x y (by omega) (by omega)]
    unfold Mut
    rw [rch x y hx, rch y x hy]
  have mem_iff : ∀ x, x ∈ m ↔ ∃ p e, InW g w p e ∧ x = (rings.getD (p * g.states.toNat + e.from_.toNat) default, e.marks) := fun x => by
    rw [hm]
    constructor
    · rintro (k | ⟨q, hq, s, hs, hc, rfl⟩)
      · cases k
      · rw [hget] at hs
        obtain ⟨y, hy, rfl⟩ := List.mem_map.mp hs
        obtain ⟨hy1, hy2⟩ := List.mem_filter.mp hy
        obtain ⟨p, e, hp, he, hl, rfl⟩ := stepsW_mem.mp hy1
        have hE := h.edge e he
        have hq2 : p * g.states.toNat + e.from_.toNat = q := of_decide_eq_true hy2
        rw [Nat.zero_add, ← hq2] at hc ⊢
        have hx := pt_lt hp (S := g.states.toNat) (s := e.from_.toNat) (by omega)
        have hx2 := pt_lt (nxN_lt hw hp) (S := g.states.toNat) (s := e.to_.toNat) (by omega)
        obtain ⟨c1, c2⟩ := hc
        have c2 : rings.getD (p * g.states.toNat + e.from_.toNat) default = rings.getD (((nxN w p * g.states.toNat + e.to_.toNat : Nat) : Int)).toNat default := c2
        rw [Int.toNat_natCast] at c2
        exact ⟨p, e, ⟨hp, he, by omega, (far_iff _ hx).mp c1, (ring_iff _ _ hx hx2).mp c2⟩, rfl⟩
    · rintro ⟨p, e, ⟨hp, he, hl, hb, hmu⟩, rfl⟩
      have hE := h.edge e he
      have hx := pt_lt hp (S := g.states.toNat) (s := e.from_.toNat) (by omega)
      have hx2 := pt_lt (nxN_lt hw hp) (S := g.states.toNat) (s := e.to_.toNat) (by omega)
      refine .inr ⟨p * g.states.toNat + e.from_.toNat, by omega, (stepE w g.states.toNat p e).2, ?_, ?_, by rw [Nat.zero_add]; rfl⟩
      · rw [hget]
        exact List.mem_map.mpr ⟨_, List.mem_filter.mpr ⟨stepsW_mem.mpr ⟨p, e, hp, he, by omega, rfl⟩, by simp [stepE]⟩, rfl⟩
      · rw [Nat.zero_add]
        refine ⟨(far_iff _ hx).mpr hb, ?_⟩
        show _ = rings.getD (((nxN w p * g.states.toNat + e.to_.toNat : Nat) : Int)).toNat default
        rw [Int.toNat_natCast]
        exact (ring_iff _ _ hx hx2).mpr hmu
  have p16 : 2 ^ g.sets.toNat ≤ 16 := by
    have : 2 ^ g.sets.toNat ≤ 2 ^ 4 := Nat.pow_le_pow_right (by decide) (by omega)
    exact this
  have hmk : ∀ x ∈ m, 0 ≤ x.2 ∧ x.2 < 16 := fun x hx => by
    obtain ⟨p, e, hi, rfl⟩ := (mem_iff x).mp hx
    have hE := h.edge e hi.2.1
    dsimp only
    omega
  have pt : ∀ p e, InW g w p e → p * g.states.toNat + e.from_.toNat < plN w * g.states.toNat := fun p e hi => by
    have hE := h.edge e hi.2.1
    exact pt_lt hi.1 (by omega)
  congr 1
  rw [Bool.eq_iff_iff, List.any_eq_true, dcW_iff]
  constructor
  · rintro ⟨x, hx, hin⟩
    obtain ⟨p, e, hi, rfl⟩ := (mem_iff x).mp hx
    obtain ⟨b, eb, hb, hbit⟩ := marksOf_ok hmk (rings.getD (p * g.states.toNat + e.from_.toNat) default)
    dsimp only at hin
    rw [eb, isIn_iff (by omega) hb] at hin
    refine ⟨p, e, hi, fun i hi2 => ?_⟩
    obtain ⟨y, hy, hy1, hy2⟩ := (hbit i).mp (hin i hi2)
    obtain ⟨p', e', hi', rfl⟩ := (mem_iff y).mp hy
    exact ⟨p', e', hi', ((ring_iff _ _ (pt p' e' hi') (pt p e hi)).mp hy1).symm, hy2⟩
  · rintro ⟨p, e, hi, hall⟩
    refine ⟨(rings.getD (p * g.states.toNat + e.from_.toNat) default, e.marks), (mem_iff _).mpr ⟨p, e, hi, rfl⟩, ?_⟩
    obtain ⟨b, eb, hb, hbit⟩ := marksOf_ok hmk (rings.getD (p * g.states.toNat + e.from_.toNat) default)
    dsimp only
    rw [eb, isIn_iff (by omega) hb]
    intro i hi2
    obtain ⟨p', e', hi', hmu, hbi⟩ := hall i hi2
    exact (hbit i).mpr ⟨_, (mem_iff _).mpr ⟨p', e', hi', rfl⟩, ((ring_iff _ _ (pt p' e' hi') (pt p e hi)).mpr hmu.symm), hbi⟩
end Go.Proofs.Ythdclobnmicdaaa
end

/- What words an automaton of many marks takes: the program says what the reference says. -/
section
namespace Go.Proofs.Ythdclobnmicdaaa
open Go Go.RowKit E
set_option linter.unusedVariables false

theorem no_edges {g : TGen} (h : genOk g = true) (h0 : g.states = 0) : g.edges = [] := by
  unfold genOk at h
  rw [Bool.and_eq_true] at h
  cases he : g.edges with
  | nil => rfl
  | cons e r =>
    have := List.all_eq_true.mp h.2 0 (List.mem_range.mpr (by rw [he]; simp))
    unfold gedgeOk at this
    simp only [Bool.and_eq_true, decide_eq_true_eq] at this
    omega
theorem points_nil {w : TWord} (hw : WOk w) : impl_pointsBy 0 [] w = some ⟨[]⟩ := by
  unfold impl_pointsBy
  have hpl := plN_le hw
  have g0 := graphOf_eq (n := 0) (by omega)
  rw [places_eq hw, show W ((plN w : Int) * 0) = ((0 : Nat) : Int) by rw [Int.mul_zero]; rfl, g0, Option.bind_some]
  have key := fold_loop (body := fun s : List (List Tstep) × Int => impl_pointsBy.b0 w [] 0 s.1 s.2) (List.range (plN w)) (fun y p => y) (fun k y => y = []) (fun k y hk hI => ?_) (fun y _ => by
    dsimp only
    unfold impl_pointsBy.b0
    rw [places_eq hw, if_neg (by rw [List.length_range]; omega)]) [] rfl
  · have key1 : loop (fun s : List (List Tstep) × Int => impl_pointsBy.b0 w [] 0 s.1 s.2) ((⟨List.replicate 0 []⟩ : Tgraph).next_, 0) = some ((List.range (plN w)).foldl (fun y p => y) []) := key.1
    have e : (List.range (plN w)).foldl (fun (y : List (List Tstep)) p => y) [] = [] := key.2
    rw [key1, Option.bind_some, e]; rfl
  · subst hI
    rw [List.length_range] at hk
    dsimp only
    unfold impl_pointsBy.b0
    have hin : loop (fun s : List (List Tstep) × Int => impl_pointsBy.b1 [] w (k : Int) 0 s.1 s.2) ([], 0) = some [] := loop_end (by
      dsimp only
      unfold impl_pointsBy.b1
      rw [if_neg (by simp)])
    rw [places_eq hw, if_pos (by omega), hin, Option.bind_some]
    unfold impl_pointsBy.k1
    rw [WS (by omega)]
    exact ⟨rfl, rfl⟩
theorem lives_nil (x : Int) : impl_graph_lives ⟨[]⟩ [] x = some false := by
  have hG : GOk [] := ⟨by simp, fun v hv => (by simp at hv), fun v hv => (by simp at hv)⟩
  have ht : total ([] : List (List Tstep)) ≤ 1000000 := by unfold total; simp [stepsB]
  obtain ⟨far, e1, hF⟩ := far_eq hG (src := []) (fun a ha => by cases ha) (by simp)
  obtain ⟨rings, e2, hR⟩ := rings_eq hG (back_eq hG ht) (back_ok hG ht) (buildG_len _ _) (fun p u hp hu => back_adj hG hp hu)
  have e1 : impl_graph_far ⟨[]⟩ [] = some far := e1
  unfold impl_graph_lives
  dsimp only
  rw [e1, Option.bind_some, e2, Option.bind_some]; rfl
theorem implGenTakes_eq (g : TGen) (w : TWord) : impl_GenTakes g w = some (genTakes g w) := by
  unfold impl_GenTakes genTakes
  simp only [bnd_eq]
  rw [implGenOk_eq, Option.bind_some]
  by_cases c1 : genOk g = true
  · rw [c1, Bool.not_true, Bool.not_false, whenO_t, implWordOk_eq, Option.bind_some, Bool.false_or, Bool.true_and]
    by_cases c2 : wordOk w g.letters = true
    · have hw := (wordOk_t c2).1
      have c1' := c1
      unfold genOk at c1'
      rw [Bool.and_eq_true] at c1'
      obtain ⟨g1, g2, g3, g5, g4⟩ := gheadOk_t c1'.1
      have hset := setListN_eq (S := g.start.toNat) (n := g.states.toNat) (by omega) (by omega)
      rw [show ((g.start.toNat : Nat) : Int) = g.start by omega] at hset
      rw [c2, Bool.not_true, if_neg (by simp), Bool.true_and]
      by_cases c3 : g.states = 0
      · have he := no_edges c1 c3
        have hwas : wasN g.start.toNat g.states.toNat = [] := by
          rw [c3]; rfl
        rw [hset, hwas, c3, he, points_nil hw, Option.bind_some, Option.bind_some, List.map_nil, lives_nil, Option.bind_some, decide_eq_false (by simp)]; rfl
      · have hg := genOk_W c1 c3
        have ho := only_eq (n := g.sets.toNat) (by omega)
        rw [show ((g.sets.toNat : Nat) : Int) = g.sets by omega] at ho
        have p16 : 2 ^ g.sets.toNat ≤ 16 := by
          have : 2 ^ g.sets.toNat ≤ 2 ^ 4 := Nat.pow_le_pow_right (by decide) (by omega)
          exact this
        have p1 : 1 ≤ 2 ^ g.sets.toNat := Nat.one_le_two_pow
        have ha : W (((2 ^ g.sets.toNat : Nat) : Int) - 1) = ((2 ^ g.sets.toNat - 1 : Nat) : Int) := by
          generalize 2 ^ g.sets.toNat = y at p16 p1 ⊢
          rw [W, W_eq (by omega) (by omega)]; omega
        rw [pointsBy_eq hg hw, Option.bind_some, hset, Option.bind_some, ho, ha, lives_ok hg hw, Option.bind_some, decide_eq_true c3, Bool.true_and]
    · rw [Bool.eq_false_iff.mpr c2, Bool.not_false, if_pos rfl]; rfl
  · rw [Bool.eq_false_iff.mpr c1]; rfl
end Go.Proofs.Ythdclobnmicdaaa
end

/- Lists of numbers: copied as they are, held against each other. -/
section
namespace Go.Proofs.Ythdclobnmicdaaa
open Go Go.RowKit E
set_option linter.unusedVariables false

theorem toIntS_eq (xs : List Int) (h : xs.length ≤ 1048576) : laws_toIntS xs = some xs := by
  unfold laws_toIntS
  rw [mk_ok (by omega) (by omega), Option.bind_some, Int.toNat_natCast]
  have h1 := copy_loop (fun a : Int => some a) id (fun _ => rfl) 0 xs (by omega)
  have h2 : loop (fun s : List Int × Int => laws_toIntS.b0 xs s.1 s.2) (List.replicate xs.length 0, 0) = some (xs.map id) := h1
  rw [h2, Option.bind_some, List.map_id]; rfl
theorem eqIntS_eq (xs ys : List Int) (h : xs.length ≤ 1048576) : laws_eqIntS xs ys = some (decide (xs = ys)) := by
  unfold laws_eqIntS
  split
  · rename_i k; rw [decide_eq_false]; intro e; subst e; exact k rfl
  · rename_i k
    have h1 := eq_loop (fun a b : Int => some (decide (a = b))) (fun a b => rfl) xs ys (by omega) (by omega)
    have h2 : loop (fun s : Int => laws_eqIntS.b0 xs ys s) 0 = some (if xs = ys then (.inl () : Unit ⊕ Bool) else .inr false) := by
      rw [← h1]
      congr 1
      funext s
      unfold laws_eqIntS.b0
      split
      · cases ix xs s with
        | none => rfl
        | some a =>
          cases ix ys s with
          | none => rfl
          | some b =>
            simp only [Option.bind_some]
            by_cases e : a = b
            · rw [if_neg (by simpa using e), if_neg (by simp [e])]
            · rw [if_pos (by simpa using e), if_pos (by simp [e])]
      · rfl
    rw [h2, Option.bind_some]
    by_cases e : xs = ys
    · rw [if_pos e]; simp [e, laws_eqIntS.k0]
    · rw [if_neg e]; simp [e]
end Go.Proofs.Ythdclobnmicdaaa
end

/- Words copied, held against each other, and counted. -/
section
namespace Go.Proofs.Ythdclobnmicdaaa
open Go Go.RowKit E
set_option linter.unusedVariables false

theorem toWord_eq (w : TWord) (h1 : w.stem.length ≤ 1048576) (h2 : w.loop.length ≤ 1048576) : laws_toWord w = some w := by
  unfold laws_toWord
  rw [toIntS_eq _ h1, Option.bind_some, toIntS_eq _ h2, Option.bind_some]
theorem eqWord_eq (w : TWord) (h1 : w.stem.length ≤ 1048576) (h2 : w.loop.length ≤ 1048576) : laws_eqWord w w = some true := by
  unfold laws_eqWord
  rw [eqIntS_eq _ _ h1, Option.bind_some]
  simp only [decide_true, Bool.not_true, Bool.false_eq_true, if_false]
  rw [eqIntS_eq _ _ h2, Option.bind_some]
  simp
theorem szIntS_eq (xs : List Int) (k : Int) (h : xs.length ≤ 9223372036854775807) (hk : 0 ≤ k ∧ k ≤ 1048576) : laws_szIntS xs k = if (xs.length : Int) ≤ k then k - xs.length else -1 := by
  unfold laws_szIntS
  rw [W, W_eq (by omega) (by omega)]
  split <;> split <;> omega
theorem szWord_eq (w : TWord) (k : Int) (h1 : w.stem.length ≤ 9223372036854775807) (h2 : w.loop.length ≤ 9223372036854775807) (hk : 0 ≤ k ∧ k ≤ 1048576) : laws_szWord w k = if (w.stem.length : Int) + w.loop.length ≤ k then k - w.stem.length - w.loop.length else -1 := by
  unfold laws_szWord
  rw [szIntS_eq _ _ h1 hk]
  by_cases c : (w.stem.length : Int) ≤ k
  · rw [if_pos c, if_neg (by omega), szIntS_eq _ _ h2 (by omega)]
    split
    · split <;> split <;> omega
    · split <;> omega
  · rw [if_neg c, if_pos (by omega), if_neg (by omega)]
end Go.Proofs.Ythdclobnmicdaaa
end

/- What words an automaton of many marks takes: the law. -/
section
namespace Go.Proofs.Ythdclobnmicdaaa
open Go Go.RowKit E
set_option linter.unusedVariables false

theorem toGEdgeS_eq (xs : List TGEdge) (h : xs.length ≤ 1048576) : laws_toGEdgeS xs = some xs := by
  unfold laws_toGEdgeS
  rw [mk_ok (by omega) (by omega), Option.bind_some, Int.toNat_natCast]
  have h1 := copy_loop (fun a => some (laws_toGEdge a)) laws_toGEdge (fun _ => rfl) (TGEdge.mk 0 0 0 0) xs (by omega)
  have h2 : loop (fun s : List TGEdge × Int => laws_toGEdgeS.b0 xs s.1 s.2) (List.replicate xs.length (TGEdge.mk 0 0 0 0), 0) = some (xs.map laws_toGEdge) := h1
  rw [h2, Option.bind_some]
  have : xs.map laws_toGEdge = xs := by
    have : laws_toGEdge = id := rfl
    rw [this]; simp
  rw [this]; rfl
theorem eqGEdge_eq (a b : TGEdge) : laws_eqGEdge a b = decide (a = b) := by
  unfold laws_eqGEdge
  cases a; cases b
  simp only [TGEdge.mk.injEq]
  repeat' split
  all_goals simp_all
theorem eqGEdgeS_eq (xs ys : List TGEdge) (h : xs.length ≤ 1048576) : laws_eqGEdgeS xs ys = some (decide (xs = ys)) := by
  unfold laws_eqGEdgeS
  split
  · rename_i k; rw [decide_eq_false]; intro e; subst e; exact k rfl
  · rename_i k
    have h1 := eq_loop (fun a b => some (laws_eqGEdge a b)) (fun a b => by rw [eqGEdge_eq]) xs ys (by omega) (by omega)
    have h2 : loop (fun s : Int => laws_eqGEdgeS.b0 xs ys s) 0 = some (if xs = ys then (.inl () : Unit ⊕ Bool) else .inr false) := h1
    rw [h2, Option.bind_some]
    by_cases e : xs = ys
    · rw [if_pos e]; simp [e, laws_eqGEdgeS.k0]
    · rw [if_neg e]; simp [e]
theorem toGen_eq (g : TGen) (h : g.edges.length ≤ 1048576) : laws_toGen g = some g := by
  unfold laws_toGen
  rw [toGEdgeS_eq _ h, Option.bind_some]
theorem eqGen_eq (g : TGen) (h : g.edges.length ≤ 1048576) : laws_eqGen g g = some true := by
  unfold laws_eqGen
  rw [if_neg (by simp), if_neg (by simp), if_neg (by simp), if_neg (by simp), eqGEdgeS_eq _ _ h, Option.bind_some]
  simp
theorem szGen_eq (g : TGen) (h : g.edges.length ≤ 9223372036854775807) : laws_szGen g 1048576 = if g.edges.length ≤ 1048576 then 1048576 - (g.edges.length : Int) else -1 := by
  unfold laws_szGen laws_szGEdgeS
  rw [W, W_eq (by omega) (by omega)]
  (repeat' split) <;> omega
theorem pureGenTakes (g : TGen) (wg : TGen.wf g) (w : TWord) (ww : TWord.wf w) : laws_FnExactGenTakes g w = some true := by
  obtain ⟨_, _, _, _, we, _⟩ := wg
  obtain ⟨⟨w1, _⟩, ⟨w2, _⟩⟩ := ww
  unfold laws_FnExactGenTakes
  rw [szGen_eq g we]
  by_cases lg : g.edges.length ≤ 1048576
  · rw [if_pos lg, if_neg (by omega), szWord_eq w _ w1 w2 (by omega)]
    by_cases lw : (w.stem.length : Int) + w.loop.length ≤ 1048576 - (g.edges.length : Int)
    · rw [if_neg (by rw [if_pos lw]; omega)]
      have l1 : w.stem.length ≤ 1048576 := by omega
      have l2 : w.loop.length ≤ 1048576 := by omega
      simp only [toGen_eq g lg, toWord_eq w l1 l2, Option.bind_some, specGenTakes_eq, implGenTakes_eq, eqGen_eq g lg, eqWord_eq w l1 l2]
      simp
    · rw [if_pos (by rw [if_neg lw]; omega)]
  · rw [if_neg lg, if_pos (by omega)]
end Go.Proofs.Ythdclobnmicdaaa
end
