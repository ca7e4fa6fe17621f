/- Graphs made of steps one by one; graphs turned round; the graph of an automaton. -/
import Derived.Test.YthdclobnmicdaaaDPath
import Derived.Test.YthdclobnmicdaaaPGraph
import Derived.Test.YthdclobnmicdaaaPAOk
namespace Go.Proofs.Ythdclobnmicdaaa
open Go Go.RowKit E
set_option linter.unusedVariables false

/-- A loop over a list that makes something anew of what there was and each element. -/
theorem fold_loop {α σ : Type} [Inhabited α] (xs : List α) (f : σ → α → σ) (Inv : Nat → σ → Prop) {body : σ × Int → Option ((σ × Int) ⊕ σ)} (go : ∀ (k : Nat) (st : σ), k < xs.length → Inv k st → body (st, (k : Int)) = some (.inl (f st (xs.getD k default), ((k + 1 : Nat) : Int))) ∧ Inv (k + 1) (f st (xs.getD k default)))
    (fin : ∀ st, Inv xs.length st → body (st, (xs.length : Int)) = some (.inr st)) (st : σ) (h0 : Inv 0 st) : loop body (st, 0) = some (xs.foldl f st) ∧ Inv xs.length (xs.foldl f st) := by
  have key : ∀ post pre, xs = pre ++ post → ∀ st, Inv pre.length st → loop body (st, (pre.length : Int)) = some (post.foldl f st) ∧ Inv xs.length (post.foldl f st) := by
    intro post
    induction post with
    | nil => intro pre h st hi; simp at h; subst h; exact ⟨loop_end (fin st hi), hi⟩
    | cons a post ih =>
      intro pre h st hi
      have hk : pre.length < xs.length := by rw [h]; simp
      have ha : xs.getD pre.length default = a := by rw [h]; simp
      obtain ⟨g1, g2⟩ := go pre.length st hk hi
      rw [ha] at g1 g2
      have e : (((pre.length + 1 : Nat) : Int)) = ((pre ++ [a]).length : Int) := by simp
      rw [loop_go g1, e, List.foldl_cons]
      exact ih (pre ++ [a]) (by rw [h]; simp) _ (by simpa using g2)
  exact key xs [] rfl st h0

def addG (g : List (List Tstep)) (x : Nat × Tstep) : List (List Tstep) := g.set x.1 (g.getD x.1 default ++ [x.2])
theorem add_eq {g : List (List Tstep)} {f : Nat} {to m : Int} (hf : f < g.length) (hr : (g.getD f default).length ≤ 100000000) : impl_graph_add ⟨g⟩ (f : Int) to m = some ⟨addG g (f, ⟨to, m⟩)⟩ := by
  unfold impl_graph_add addG
  dsimp only
  rw [ck_nat hf, Option.bind_some, app_small (by show (g.getD f default).length + 1 ≤ _; omega) (by decide), Option.bind_some]
  rfl
theorem addG_len (g : List (List Tstep)) (x : Nat × Tstep) : (addG g x).length = g.length := by unfold addG; simp
theorem addG_get {g : List (List Tstep)} {x : Nat × Tstep} (hx : x.1 < g.length) (v : Nat) : (addG g x).getD v default = if x.1 = v then g.getD v default ++ [x.2] else g.getD v default := by
  unfold addG
  rw [getD_set hx]
  split
  · rename_i e; rw [e]
  · rfl
theorem addG_le (g : List (List Tstep)) (x : Nat × Tstep) (v : Nat) : (if x.1 = v then g.getD v default ++ [x.2] else g.getD v default).length ≤ (g.getD v default).length + 1 := by
  split
  · rw [List.length_append, List.length_singleton]; omega
  · omega
theorem foldG_len : ∀ (l : List (Nat × Tstep)) (g : List (List Tstep)), (l.foldl addG g).length = g.length
  | [], g => rfl
  | x :: l, g => by rw [List.foldl_cons, foldG_len l, addG_len]
theorem foldG_get {v : Nat} : ∀ (l : List (Nat × Tstep)) (g : List (List Tstep)), (∀ x ∈ l, x.1 < g.length) → (l.foldl addG g).getD v default = g.getD v default ++ (l.filter fun x => decide (x.1 = v)).map (·.2)
  | [], g, _ => by simp
  | x :: l, g, h => by
    rw [List.foldl_cons, foldG_get l _ (fun y hy => by rw [addG_len]; exact h y (List.mem_cons_of_mem _ hy)), addG_get (h x List.mem_cons_self)]
    by_cases e : x.1 = v
    · rw [if_pos e, List.filter_cons_of_pos (by simpa using e)]; simp
    · rw [if_neg e, List.filter_cons_of_neg (by simpa using e)]
def buildG (n : Nat) (l : List (Nat × Tstep)) : List (List Tstep) := l.foldl addG (List.replicate n [])
theorem buildG_len (n : Nat) (l : List (Nat × Tstep)) : (buildG n l).length = n := by unfold buildG; rw [foldG_len]; simp
theorem buildG_get {n : Nat} {l : List (Nat × Tstep)} (h : ∀ x ∈ l, x.1 < n) (v : Nat) : (buildG n l).getD v default = (l.filter fun x => decide (x.1 = v)).map (·.2) := by
  unfold buildG
  rw [foldG_get l _ (by simpa using h)]
  have : (List.replicate n ([] : List Tstep)).getD v default = [] := by
    simp only [List.getD_eq_getElem?_getD, List.getElem?_replicate]
    split <;> rfl
  rw [this]; rfl
theorem buildG_ok {n : Nat} {l : List (Nat × Tstep)} (hn : n ≤ 1000000) (hl : l.length ≤ 1000000) (h : ∀ x ∈ l, x.1 < n) (ht : ∀ x ∈ l, 0 ≤ x.2.to_ ∧ x.2.to_ < n) : GOk (buildG n l) := by
  refine ⟨by rw [buildG_len]; exact hn, fun v hv => ?_, fun v hv s hs => ?_⟩
  · rw [buildG_get h, List.length_map]
    exact Nat.le_trans (List.length_filter_le _ _) hl
  · rw [buildG_get h] at hs
    rw [buildG_len]
    obtain ⟨x, hx, rfl⟩ := List.mem_map.mp hs
    exact ht x (List.mem_filter.mp hx).1
theorem buildG_adj {n : Nat} {l : List (Nat × Tstep)} (h : ∀ x ∈ l, x.1 < n) (a b : Nat) : b ∈ adjG (buildG n l) a ↔ ∃ x ∈ l, x.1 = a ∧ x.2.to_.toNat = b := by
  unfold adjG
  rw [buildG_get h]
  simp only [List.mem_map, List.mem_filter, decide_eq_true_eq]
  constructor
  · rintro ⟨s, ⟨x, ⟨h1, h2⟩, rfl⟩, h3⟩; exact ⟨x, h1, h2, h3⟩
  · rintro ⟨x, h1, h2, h3⟩; exact ⟨x.2, ⟨x, ⟨h1, h2⟩, rfl⟩, h3⟩
theorem graphOf_eq {n : Nat} (h : n ≤ 1000000) : impl_graphOf (n : Int) = some ⟨List.replicate n []⟩ := by
  unfold impl_graphOf
  rw [mk_ok (by omega) (by omega), Option.bind_some, Int.toNat_natCast]

/-- An automaton's steps. -/
def stepsA (a : TAuto) : List (Nat × Tstep) := a.edges.map fun e => (e.from_.toNat, Tstep.mk e.to_ (if e.good = true then 1 else 0))
theorem autoGraph_eq {a : TAuto} (h : AOk a) : impl_Auto_graph a = some ⟨buildG a.states.toNat (stepsA a)⟩ := by
  have h1 := h.sts; have h2 := h.num
  unfold impl_Auto_graph
  have e0 : a.states = ((a.states.toNat : Nat) : Int) := by omega
  rw [e0, graphOf_eq (by omega), Option.bind_some]
  have key := fold_loop (body := fun s : List (List Tstep) × Int => impl_Auto_graph.b0 a s.1 s.2) a.edges (fun g e => addG g (e.from_.toNat, Tstep.mk e.to_ (if e.good = true then 1 else 0))) (fun k g => g.length = a.states.toNat ∧ ∀ v, (g.getD v default).length ≤ k) (fun k g hk hI => ?_) (fun g _ => by
    unfold impl_Auto_graph.b0; rw [if_neg (by simp)]) (List.replicate a.states.toNat []) ⟨by simp, fun v => by
      have : (List.replicate a.states.toNat ([] : List Tstep)).getD v default = [] := by
        simp only [List.getD_eq_getElem?_getD, List.getElem?_replicate]
        split <;> rfl
      rw [this]; simp⟩
  · rw [key.1, Option.bind_some]
    unfold impl_Auto_graph.k0 buildG stepsA
    rw [List.foldl_map]
    rfl
  · obtain ⟨i1, i2⟩ := hI
    have he := h.edge _ (getD_memL hk)
    have hf : (a.edges.getD k default).from_.toNat < g.length := by omega
    refine ⟨?_, by rw [addG_len]; exact i1, fun v => ?_⟩
    · unfold impl_Auto_graph.b0
      rw [if_pos (by dsimp only; omega), ix_nat hk, Option.bind_some]
      have hk1 : ∀ m, impl_Auto_graph.k1 g (a.edges.getD k default) (k : Int) m = some (.inl (addG g ((a.edges.getD k default).from_.toNat, Tstep.mk (a.edges.getD k default).to_ m), ((k + 1 : Nat) : Int))) := fun m => by
        unfold impl_Auto_graph.k1
        have := add_eq (g := g) (to := (a.edges.getD k default).to_) (m := m) hf (by have := i2 (a.edges.getD k default).from_.toNat; omega)
        rw [Int.toNat_of_nonneg he.1.1] at this
        rw [this, Option.bind_some, WS (by omega)]
      split
      · rw [hk1]
      · rw [hk1]
    · rw [addG_get hf]
      have := i2 v
      have h3 := addG_le g ((a.edges.getD k default).from_.toNat, Tstep.mk (a.edges.getD k default).to_ (if (a.edges.getD k default).good = true then 1 else 0)) v
      omega
theorem stepsA_from {a : TAuto} (h : AOk a) : ∀ x ∈ stepsA a, x.1 < a.states.toNat := fun x hx => by
  obtain ⟨e, he, rfl⟩ := List.mem_map.mp hx
  have := h.edge e he
  dsimp only; omega
theorem autoGraph_ok {a : TAuto} (h : AOk a) : GOk (buildG a.states.toNat (stepsA a)) := by
  have h1 := h.sts; have h2 := h.num
  refine buildG_ok (by omega) (by unfold stepsA; simp; omega) (stepsA_from h) fun x hx => ?_
  obtain ⟨e, he, rfl⟩ := List.mem_map.mp hx
  have := h.edge e he
  dsimp only; omega
/-- The states to which edges lead. -/
def adjA (a : TAuto) : Nat → List Nat := adjG (buildG a.states.toNat (stepsA a))
theorem adjA_mem {a : TAuto} (h : AOk a) (u v : Nat) : v ∈ adjA a u ↔ ∃ e ∈ a.edges, e.from_.toNat = u ∧ e.to_.toNat = v := by
  unfold adjA
  rw [buildG_adj (stepsA_from h)]
  unfold stepsA
  constructor
  · rintro ⟨x, hx, h1, h2⟩
    obtain ⟨e, he, rfl⟩ := List.mem_map.mp hx
    exact ⟨e, he, h1, h2⟩
  · rintro ⟨e, he, h1, h2⟩
    exact ⟨_, List.mem_map.mpr ⟨e, he, rfl⟩, h1, h2⟩

/-- A graph's steps turned round. -/
def stepsB (g : List (List Tstep)) (vs : List Nat) : List (Nat × Tstep) := vs.flatMap fun v => (g.getD v default).map fun s => (s.to_.toNat, Tstep.mk (v : Int) s.marks)
def total (g : List (List Tstep)) : Nat := (stepsB g (List.range g.length)).length
theorem back_eq {g : List (List Tstep)} (h : GOk g) (ht : total g ≤ 1000000) : impl_graph_back ⟨g⟩ = some ⟨buildG g.length (stepsB g (List.range g.length))⟩ := by
  have h1 := h.len
  unfold impl_graph_back
  dsimp only
  rw [graphOf_eq h1, Option.bind_some]
  have hsub : ∀ k, k ≤ g.length → (stepsB g (List.range k)).length ≤ total g := fun k hk => by
    unfold total
    have : List.range g.length = List.range k ++ (List.range (g.length - k)).map (k + ·) := by
      rw [← List.range_add]; congr 1; omega
    rw [this]; unfold stepsB; rw [List.flatMap_append, List.length_append]; omega
  have key := loop_up (body := fun s : List (List Tstep) × Int => impl_graph_back.b0 ⟨g⟩ s.1 s.2) g.length (fun k => (buildG g.length (stepsB g (List.range k)), (k : Int))) (buildG g.length (stepsB g (List.range g.length))) (fun k hk => ?_) ?_ 0 (Nat.zero_le _)
  · have e : buildG g.length (stepsB g (List.range 0)) = List.replicate g.length [] := rfl
    rw [e] at key
    have key' : loop (fun s : List (List Tstep) × Int => impl_graph_back.b0 ⟨g⟩ s.1 s.2) (List.replicate g.length [], 0) = _ := key
    rw [key']; rfl
  · dsimp only
    unfold impl_graph_back.b0
    rw [if_pos (by dsimp only; omega), ix_nat hk, Option.bind_some]
    have hfr : ∀ m, m ≤ g.length → ∀ x ∈ stepsB g (List.range m), x.1 < g.length := fun m hm x hx => by
      obtain ⟨v, hv, hx⟩ := List.mem_flatMap.mp hx
      obtain ⟨s, hs, rfl⟩ := List.mem_map.mp hx
      have hv' := List.mem_range.mp hv
      have := h.to_ v (by omega) s hs
      dsimp only; omega
    have hk1 := hsub k (by omega)
    have hk2 := hsub (k + 1) (by omega)
    have hsplit : stepsB g (List.range (k + 1)) = stepsB g (List.range k) ++ (g.getD k default).map fun s => (s.to_.toNat, Tstep.mk (k : Int) s.marks) := by
      rw [List.range_succ]; unfold stepsB; rw [List.flatMap_append]; simp
    have hlen2 : (stepsB g (List.range k)).length + (g.getD k default).length ≤ 1000000 := by
      rw [hsplit, List.length_append, List.length_map] at hk2; omega
    have e2 := fold_loop (body := fun s : List (List Tstep) × Int => impl_graph_back.b1 (g.getD k default) (k : Int) s.1 s.2) (g.getD k default) (fun y s => addG y (s.to_.toNat, Tstep.mk (k : Int) s.marks)) (fun j y => y.length = g.length ∧ ∀ v, (y.getD v default).length ≤ (stepsB g (List.range k)).length + j) (fun j y hj hI => ?_) (fun y _ => by
      unfold impl_graph_back.b1; rw [if_neg (by simp)]) (buildG g.length (stepsB g (List.range k))) ⟨buildG_len _ _, fun v => by
        rw [buildG_get (hfr k (by omega)), List.length_map]; exact List.length_filter_le _ _⟩
    · rw [e2.1, Option.bind_some]
      unfold impl_graph_back.k1
      rw [WS (by omega), hsplit]
      unfold buildG
      rw [List.foldl_append, List.foldl_map]
    · obtain ⟨i1, i2⟩ := hI
      have hto := h.to_ k hk _ (getD_memL hj)
      have hf : ((g.getD k default).getD j default).to_.toNat < y.length := by omega
      refine ⟨?_, by rw [addG_len]; exact i1, fun v => ?_⟩
      · unfold impl_graph_back.b1
        rw [if_pos (by dsimp only; omega)]
        dsimp only
        rw [ix_nat hj, Option.bind_some]
        have := add_eq (g := y) (to := (k : Int)) (m := ((g.getD k default).getD j default).marks) hf (by have := i2 ((g.getD k default).getD j default).to_.toNat; omega)
        rw [Int.toNat_of_nonneg hto.1] at this
        rw [this, Option.bind_some, WS (by have := h.row k hk; omega)]
      · rw [addG_get hf]
        have := i2 v
        have h3 := addG_le y (((g.getD k default).getD j default).to_.toNat, Tstep.mk (k : Int) ((g.getD k default).getD j default).marks) v
        omega
  · dsimp only
    unfold impl_graph_back.b0
    rw [if_neg (by simp)]
theorem back_from {g : List (List Tstep)} (h : GOk g) : ∀ x ∈ stepsB g (List.range g.length), x.1 < g.length := fun x hx => by
  obtain ⟨v, hv, hx⟩ := List.mem_flatMap.mp hx
  obtain ⟨s, hs, rfl⟩ := List.mem_map.mp hx
  have := h.to_ v (List.mem_range.mp hv) s hs
  dsimp only; omega
theorem back_ok {g : List (List Tstep)} (h : GOk g) (ht : total g ≤ 1000000) : GOk (buildG g.length (stepsB g (List.range g.length))) := by
  refine buildG_ok h.len ht (back_from h) fun x hx => ?_
  obtain ⟨v, hv, hx⟩ := List.mem_flatMap.mp hx
  obtain ⟨s, hs, rfl⟩ := List.mem_map.mp hx
  have := List.mem_range.mp hv
  dsimp only; omega
theorem back_adj {g : List (List Tstep)} (h : GOk g) {p u : Nat} (hp : p < g.length) (hu : u < g.length) : u ∈ adjG (buildG g.length (stepsB g (List.range g.length))) p ↔ p ∈ adjG g u := by
  rw [buildG_adj (back_from h)]
  constructor
  · rintro ⟨x, hx, rfl, h2⟩
    obtain ⟨v, hv, hx⟩ := List.mem_flatMap.mp hx
    obtain ⟨s, hs, rfl⟩ := List.mem_map.mp hx
    have : v = u := by simpa using h2
    subst this
    exact List.mem_map.mpr ⟨s, hs, rfl⟩
  · intro hm
    obtain ⟨s, hs, rfl⟩ := List.mem_map.mp hm
    exact ⟨_, List.mem_flatMap.mpr ⟨u, List.mem_range.mpr hu, List.mem_map.mpr ⟨s, hs, rfl⟩⟩, rfl, by simp⟩
theorem stepsB_len {n : Nat} {l : List (Nat × Tstep)} (h : ∀ x ∈ l, x.1 < n) : total (buildG n l) ≤ l.length := by
  unfold total
  rw [buildG_len]
  have key : ∀ k, (stepsB (buildG n l) (List.range k)).length = (l.filter fun x => decide (x.1 < k)).length := by
    intro k
    induction k with
    | zero => rw [List.filter_eq_nil_iff.mpr (by simp)]; rfl
    | succ k ih =>
      rw [List.range_succ]
      have : stepsB (buildG n l) (List.range k ++ [k]) = stepsB (buildG n l) (List.range k) ++ ((buildG n l).getD k default).map fun s => (s.to_.toNat, Tstep.mk (k : Int) s.marks) := by unfold stepsB; rw [List.flatMap_append]; simp
      rw [this, List.length_append, ih, List.length_map, buildG_get h, List.length_map]
      have key2 : ∀ l : List (Nat × Tstep), (l.filter fun x => decide (x.1 < k)).length + (l.filter fun x => decide (x.1 = k)).length = (l.filter fun x => decide (x.1 < k + 1)).length := by
        intro l
        induction l with
        | nil => rfl
        | cons x l ih =>
          simp only [List.filter_cons]
          by_cases c1 : x.1 < k
          · have c2 : ¬ x.1 = k := by omega
            have c3 : x.1 < k + 1 := by omega
            simp [c1, c2, c3]; omega
          · by_cases c2 : x.1 = k
            · have c3 : x.1 < k + 1 := by omega
              simp [c1, c2]; omega
            · have c3 : ¬ x.1 < k + 1 := by omega
              simp [c1, c2, c3]; omega
      exact key2 l
  rw [key]
  exact List.length_filter_le _ _
theorem autoGraph_total {a : TAuto} (h : AOk a) : total (buildG a.states.toNat (stepsA a)) ≤ 1000000 := by
  have := stepsB_len (stepsA_from h)
  have h2 := h.num
  unfold stepsA at this ⊢
  simp only [List.length_map] at this
  omega
/-- Ways turned round. -/
theorem Rch_rev {adj radj : Nat → List Nat} {n : Nat} (hadj : ∀ a, a < n → ∀ b ∈ adj a, b < n) (h : ∀ p u, p < n → u < n → (u ∈ radj p ↔ p ∈ adj u)) {a b : Nat} (hr : Rch adj a b) : a < n → Rch radj b a := by
  induction hr with
  | refl a => exact fun _ => .refl a
  | @head a b c hab hbc ih =>
    intro ha
    have hb := hadj a ha b hab
    exact (ih hb).snoc ((h b a hb ha).mpr hab)
end Go.Proofs.Ythdclobnmicdaaa
