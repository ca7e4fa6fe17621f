/- How far states are from one, and a word that leads there: the program and the reference find the same. -/
import Derived.Test.YthdclobnmicdaaaDPath
import Derived.Test.YthdclobnmicdaaaPBuild
import Derived.Test.YthdclobnmicdaaaPFoldR
import Derived.Test.YthdclobnmicdaaaPHasS
import Derived.Test.YthdclobnmicdaaaPOrL
import Derived.Test.YthdclobnmicdaaaPSetList
namespace Go.Proofs.Ythdclobnmicdaaa
open Go Go.RowKit E
set_option linter.unusedVariables false

def rv (p : Nat) (es : List TEdge) : List Nat := (es.filter fun e => decide (e.to_.toNat = p)).map fun e => e.from_.toNat
theorem rv_mem {p u : Nat} {es : List TEdge} : u ∈ rv p es ↔ ∃ e ∈ es, e.to_.toNat = p ∧ e.from_.toNat = u := by
  unfold rv
  rw [List.mem_map]
  constructor
  · rintro ⟨e, he, rfl⟩
    rw [List.mem_filter, decide_eq_true_eq] at he
    exact ⟨e, he.1, he.2, rfl⟩
  · rintro ⟨e, he, h1, rfl⟩
    exact ⟨e, by rw [List.mem_filter, decide_eq_true_eq]; exact ⟨he, h1⟩, rfl⟩
def rvA (a : TAuto) (p : Nat) : List Nat := rv p a.edges
theorem rv_cons (p : Nat) (e : TEdge) (es : List TEdge) : rv p (e :: es) = if e.to_.toNat = p then e.from_.toNat :: rv p es else rv p es := by
  unfold rv
  by_cases h : e.to_.toNat = p
  · rw [if_pos h, List.filter_cons_of_pos (by simpa using h)]; rfl
  · rw [if_neg h, List.filter_cons_of_neg (by simpa using h)]
theorem l7_pass {a : TAuto} (h : AOk a) {p i : Nat} {d : Int} (hd : 0 ≤ d ∧ d ≤ 1000000) : ∀ (post pre : List TEdge), a.edges = pre ++ post → ∀ (out : List Int) (q : List Nat), out.length = a.states.toNat → p < a.states.toNat → out.getD p default = d → i < q.length → q.getD i 0 = p → q.length ≤ 1000000 + pre.length →
    loop (fun s : List Int × List Int × Int => spec_l7Far.b1 a (i : Int) s.1 s.2.1 s.2.2) (out, ints q, (pre.length : Int)) = some ((pour (d + 1) (rv p post) (out, q)).1, ints (pour (d + 1) (rv p post) (out, q)).2) := by
  intro post
  induction post with
  | nil => intro pre he out q _ _ _ _ _ _; exact loop_end (by dsimp only; unfold spec_l7Far.b1; rw [if_neg (by rw [he]; simp)]; rfl)
  | cons e post ih =>
    intro pre he out q ho hp hpd hi hqi hql
    have h1 := h.sts; have h2 := h.num
    have hm : e ∈ a.edges := by rw [he]; simp
    have hE := h.edge e hm
    have hlen : pre.length + (post.length + 1) = a.edges.length := by rw [he]; simp
    have w4 : W ((pre.length : Int) + 1) = (((pre ++ [e]).length : Nat) : Int) := by rw [W, W_eq (by omega) (by omega)]; simp
    have hix : ix a.edges (pre.length : Int) = some e := by rw [he]; exact ix_mid pre e post
    have hiq : ix (ints q) (i : Int) = some ((p : Nat) : Int) := by rw [ints_get hi, hqi]
    rw [rv_cons]
    by_cases c : e.to_.toNat = p
    · have c' : e.to_ = (p : Int) := by omega
      rw [if_pos c]
      unfold pour
      by_cases c2 : out.getD e.from_.toNat default < 0
      · have hne : e.from_.toNat ≠ p := fun g => by rw [g] at c2; omega
        rw [if_pos c2, loop_go (s' := (out.set e.from_.toNat (d + 1), ints (q ++ [e.from_.toNat]), (((pre ++ [e]).length : Nat) : Int)))]
        · refine ih (pre ++ [e]) (by rw [he]; simp) _ _ (by simpa using ho) hp ?_ (by simp; omega) ?_ (by simp; omega)
          · rw [getD_set (by omega), if_neg hne]; exact hpd
          · rw [getD_snoc, if_pos hi]; exact hqi
        · dsimp only
          unfold spec_l7Far.b1
          rw [if_pos (by omega), hix, Option.bind_some, hiq, Option.bind_some, bnd_eq, decide_eq_true c', whenO_t, ix_ok hE.1.1 (by omega), Option.bind_some, decide_eq_true c2, if_pos (by simp), ix_ok hE.2.1.1 (by omega), Option.bind_some, ck_ok hE.1.1 (by omega), Option.bind_some, app_small (by simp; omega) (by decide), Option.bind_some, c, hpd, w4, ints_snoc, Int.toNat_of_nonneg hE.1.1, show W (d + 1) = d + 1 from W_eq (by omega) (by omega)]
      · rw [if_neg c2, loop_go (s' := (out, ints q, (((pre ++ [e]).length : Nat) : Int)))]
        · exact ih (pre ++ [e]) (by rw [he]; simp) _ _ ho hp hpd hi hqi (by simp; omega)
        · dsimp only
          unfold spec_l7Far.b1
          rw [if_pos (by omega), hix, Option.bind_some, hiq, Option.bind_some, bnd_eq, decide_eq_true c', whenO_t, ix_ok hE.1.1 (by omega), Option.bind_some, decide_eq_false c2, if_neg (by simp), w4]
    · have c' : ¬ e.to_ = (p : Int) := by omega
      rw [if_neg c, loop_go (s' := (out, ints q, (((pre ++ [e]).length : Nat) : Int)))]
      · exact ih (pre ++ [e]) (by rw [he]; simp) _ _ ho hp hpd hi hqi (by simp; omega)
      · dsimp only
        unfold spec_l7Far.b1
        rw [if_pos (by omega), hix, Option.bind_some, hiq, Option.bind_some, bnd_eq, decide_eq_false c', whenO_f, Option.bind_some, if_neg (by simp), w4]
theorem rvA_lt {a : TAuto} (h : AOk a) : ∀ x, x < a.states.toNat → ∀ b ∈ rvA a x, b < a.states.toNat := fun x hx b hb => by
  obtain ⟨e, he, _, rfl⟩ := rv_mem.mp hb
  have := h.edge e he; omega
theorem l7Far_eq {a : TAuto} (h : AOk a) {t : Nat} (ht : t < a.states.toNat) : ∃ far, spec_l7Far a (t : Int) = some far ∧ IsFar (rvA a) a.states.toNat [t] far ∧ ∀ v, v < a.states.toNat → far.getD v default ≤ a.states.toNat := by
  have h1 := h.sts; have h2 := h.num
  unfold spec_l7Far
  have L := loop_up (body := fun s : List Int × Int => spec_l7Far.b2 a s.1 s.2) a.states.toNat (fun k => (List.replicate k (-1 : Int), (k : Int))) (List.replicate a.states.toNat (-1 : Int)) (fun k hk => ?_) ?_ 0 (Nat.zero_le _)
  · have L' : loop (fun s : List Int × Int => spec_l7Far.b2 a s.1 s.2) ([], 0) = _ := L
    rw [L', Option.bind_some]
    unfold spec_l7Far.k0
    rw [ck_nat (by simpa using ht), Option.bind_some]
    have hsrc : ∀ x ∈ [t], x < a.states.toNat := fun x hx => by rw [List.mem_singleton.mp hx]; exact ht
    have hB := Bfs.start (adj := rvA a) hsrc
    have e0 : pour 0 [t] (List.replicate a.states.toNat (-1), []) = ((List.replicate a.states.toNat (-1 : Int)).set t 0, [t]) := by
      unfold pour pour
      rw [if_pos (by simp [List.getD_eq_getElem?_getD, List.getElem?_replicate, ht])]; rfl
    rw [e0] at hB
    have key := loop_inv (body := fun s : List Int × List Int × Int => spec_l7Far.b0 a s.1 s.2.1 s.2.2) (fun s => ∃ out q i, s = (out, ints q, ((i : Nat) : Int)) ∧ Bfs (rvA a) a.states.toNat [t] i (out, q) ∧ i ≤ q.length) (fun s => a.states.toNat - s.2.2.toNat) (fun r => IsFar (rvA a) a.states.toNat [t] r ∧ ∀ v, v < a.states.toNat → r.getD v default ≤ a.states.toNat) ?_ (s := ((List.replicate a.states.toNat (-1 : Int)).set t 0, ints [t], 0)) ⟨_, _, 0, rfl, hB, Nat.zero_le _⟩
    · obtain ⟨r, g1, g2⟩ := key
      have g1' : loop (fun s : List Int × List Int × Int => spec_l7Far.b0 a s.1 s.2.1 s.2.2) ((List.replicate a.states.toNat (-1 : Int)).set t 0, [(t : Int)], 0) = some r := g1
      rw [g1', Option.bind_some]
      exact ⟨r, rfl, g2⟩
    · rintro _ ⟨out, q, i, rfl, hB, hi⟩
      have hsh := hB.short
      dsimp only at hsh ⊢
      by_cases c : i < q.length
      · right
        obtain ⟨hst, r, hr⟩ := hB.step c (rvA_lt h)
        have hp : q.getD i 0 < a.states.toNat := hB.lt _ (getD_mem c)
        have hp0 := (hB.mem _ hp).mpr (getD_mem c)
        have hsm := hB.small i c
        have hlo : out.length = a.states.toNat := hB.len
        dsimp only at hp0 hsm
        have e2 := l7_pass h (p := q.getD i 0) (i := i) (d := out.getD (q.getD i 0) default) ⟨hp0, by omega⟩ a.edges [] rfl out q hlo hp rfl c rfl (by simp; omega)
        have e2' : loop (fun s : List Int × List Int × Int => spec_l7Far.b1 a (i : Int) s.1 s.2.1 s.2.2) (out, ints q, 0) = _ := e2
        refine ⟨(_, _, ((i + 1 : Nat) : Int)), ?_, ⟨_, _, i + 1, rfl, hst, by rw [hr]; simp; omega⟩, ?_⟩
        · unfold spec_l7Far.b0
          rw [if_pos (by simp; omega), e2', Option.bind_some]
          unfold spec_l7Far.k2
          rw [WS (by omega)]
          rfl
        · dsimp only; omega
      · left
        unfold spec_l7Far.b0
        rw [if_neg (by simp; omega)]
        refine ⟨_, rfl, hB.far (by dsimp only; omega) hsrc (rvA_lt h), fun v hv => ?_⟩
        by_cases g : 0 ≤ out.getD v default
        · obtain ⟨j, hj, hjv⟩ := List.getElem_of_mem ((hB.mem v hv).mp g)
          have hjv' : q.getD j 0 = v := by rw [List.getD_eq_getElem?_getD, List.getElem?_eq_getElem hj, hjv]; rfl
          have := hB.small j hj
          dsimp only at this hj
          rw [hjv'] at this; omega
        · omega
  · dsimp only
    unfold spec_l7Far.b2
    rw [if_pos (by omega), app_small (by simp; omega) (by decide), Option.bind_some, WS (by omega), List.replicate_succ']
  · dsimp only
    unfold spec_l7Far.b2
    rw [if_neg (by omega)]
theorem walk_same {adj adj' : Nat → List Nat} {n : Nat} (h : ∀ p, p < n → ∀ u, u ∈ adj p → u ∈ adj' p ∧ u < n) {s v d : Nat} (hs : s < n) (hw : Walk adj s v d) : Walk adj' s v d ∧ v < n := by
  induction hw with
  | zero => exact ⟨.zero, hs⟩
  | snoc _ k ih => exact ⟨.snoc ih.1 (h _ ih.2 _ k).1, (h _ ih.2 _ k).2⟩
/-- Both find the same distances. -/
theorem far_same {a : TAuto} (h : AOk a) {t : Nat} (ht : t < a.states.toNat) : ∃ far, spec_l7Far a (t : Int) = some far ∧ (((impl_Auto_graph a).bind fun a18 => (impl_graph_back a18).bind fun a19 => impl_graph_far a19 [(t : Int)]) = some far) ∧ IsFar (rvA a) a.states.toNat [t] far ∧ ∀ v, v < a.states.toNat → far.getD v default ≤ a.states.toNat := by
  obtain ⟨far, f1, f2, f3⟩ := l7Far_eq h ht
  refine ⟨far, f1, ?_, f2, f3⟩
  have hlen := buildG_len a.states.toNat (stepsA a)
  have hgt := back_ok (autoGraph_ok h) (autoGraph_total h)
  have hgl : (buildG (buildG a.states.toNat (stepsA a)).length (stepsB (buildG a.states.toNat (stepsA a)) (List.range (buildG a.states.toNat (stepsA a)).length))).length = a.states.toNat := by rw [buildG_len, hlen]
  obtain ⟨far', g1, g2⟩ := far_eq hgt (src := [t]) (fun x hx => by rw [hgl, List.mem_singleton.mp hx]; exact ht) (by simp)
  rw [autoGraph_eq h, Option.bind_some, back_eq (autoGraph_ok h) (autoGraph_total h), Option.bind_some]
  have g1' : impl_graph_far ⟨buildG (buildG a.states.toNat (stepsA a)).length (stepsB (buildG a.states.toNat (stepsA a)) (List.range (buildG a.states.toNat (stepsA a)).length))⟩ [(t : Int)] = some far' := g1
  rw [g1']
  rw [hgl] at g2
  have hadj : ∀ p u, p < a.states.toNat → u < a.states.toNat → (u ∈ adjG (buildG (buildG a.states.toNat (stepsA a)).length (stepsB (buildG a.states.toNat (stepsA a)) (List.range (buildG a.states.toNat (stepsA a)).length))) p ↔ u ∈ rvA a p) := fun p u hp hu => by
    rw [back_adj (autoGraph_ok h) (by omega) (by omega)]
    show p ∈ adjA a u ↔ _
    rw [adjA_mem h]
    unfold rvA
    rw [rv_mem]
    exact ⟨fun ⟨e, x1, x2, x3⟩ => ⟨e, x1, x3, x2⟩, fun ⟨e, x1, x2, x3⟩ => ⟨e, x1, x3, x2⟩⟩
  congr 1
  refine (IsFar.unique f2 g2 (fun _ => Iff.rfl) fun s hs v d => ?_).symm
  rw [List.mem_singleton.mp hs]
  constructor
  · intro w
    exact (walk_same (fun p hp u hu => ⟨(hadj p u hp (rvA_lt h p hp u hu)).mpr hu, rvA_lt h p hp u hu⟩) ht w).1
  · intro w
    refine (walk_same (fun p hp u hu => ?_) ht w).1
    have hu' := hgt.adj p (by omega) u hu
    exact ⟨(hadj p u hp (by omega)).mp hu, by omega⟩
/-- An edge leads at most one step nearer. -/
theorem far_edge {a : TAuto} (h : AOk a) {t : Nat} {far : List Int} (hF : IsFar (rvA a) a.states.toNat [t] far) {e : TEdge} (he : e ∈ a.edges) (hd : 0 ≤ far.getD e.to_.toNat default) : 0 ≤ far.getD e.from_.toNat default ∧ far.getD e.from_.toNat default ≤ far.getD e.to_.toNat default + 1 := by
  have hE := h.edge e he
  rcases hF.val e.to_.toNat (by omega) with ⟨g1, _⟩ | ⟨d, g1, ⟨s, g2, g3⟩, _⟩
  · omega
  · have hw : Walk (rvA a) s e.from_.toNat (d + 1) := .snoc g3 (rv_mem.mpr ⟨e, he, rfl, rfl⟩)
    rcases hF.val e.from_.toNat (by omega) with ⟨k1, k2⟩ | ⟨d', k1, _, k3⟩
    · exact absurd hw.rch (k2 s g2)
    · have := k3 s g2 _ hw; omega
/-- From afar an edge leads nearer. -/
theorem far_next {a : TAuto} (h : AOk a) {t : Nat} {far : List Int} (hF : IsFar (rvA a) a.states.toNat [t] far) {v : Nat} (hv : v < a.states.toNat) (hd : 0 < far.getD v default) : ∃ e ∈ a.edges, e.from_.toNat = v ∧ far.getD e.to_.toNat default = far.getD v default - 1 := by
  rcases hF.val v hv with ⟨g1, _⟩ | ⟨d, g1, ⟨s, g2, g3⟩, g4⟩
  · omega
  · cases g3 with
    | zero => omega
    | @snoc u _ d' w k =>
      obtain ⟨e, he, x1, x2⟩ := rv_mem.mp k
      subst x1
      refine ⟨e, he, x2, ?_⟩
      have hE := h.edge e he
      rcases hF.val e.to_.toNat (by omega) with ⟨k1, k2⟩ | ⟨d2, k1, ⟨s2, k2, k3⟩, k4⟩
      · exact absurd w.rch (k2 s g2)
      · have := k4 s g2 _ w
        have := g4 s2 k2 _ (.snoc k3 (rv_mem.mpr ⟨e, he, rfl, x2⟩))
        omega
theorem setOf_succ (c : Nat → Bool) (k : Nat) : setOf c (k + 1) = if c k = true then setOf c k ||| 2 ^ k else setOf c k := by unfold setOf; rw [List.range_succ, List.foldl_append]; rfl
theorem setOf_zero {c : Nat → Bool} {k : Nat} (h : ∀ v, v < k → c v = false) : setOf c k = 0 := Nat.eq_of_testBit_eq fun i => by
  rw [setOf_bit, Nat.zero_testBit]
  by_cases e : i < k
  · rw [h i e]; simp
  · simp [e]
/-- The members of a set that are nearest. -/
def Near (far : List Int) (S k : Nat) (x : Int) (r : Nat) : Prop :=
  (x = -1 ∧ r = 0 ∧ ∀ v, v < k → S.testBit v = true → far.getD v default < 0) ∨
  (0 ≤ x ∧ r = setOf (fun v => S.testBit v && decide (far.getD v default = x)) k ∧ (∃ v, v < k ∧ S.testBit v = true ∧ far.getD v default = x) ∧ ∀ v, v < k → S.testBit v = true → far.getD v default < 0 ∨ x ≤ far.getD v default)
theorem near_eq {far : List Int} {n : Nat} (hn : n ≤ 31) (hf : far.length = n) {S : Nat} (hS : S < 2 ^ n) : ∃ x r, spec_l7Near far (S : Int) = some (((r : Nat) : Int), x) ∧ Near far S n x r := by
  have h31 : (2 : Nat) ^ 31 = 2147483648 := rfl
  have hSl := lt31 hn hS
  unfold spec_l7Near
  have key := loop_inv (body := fun s : Int × Int × Int => spec_l7Near.b0 far (S : Int) s.1 s.2.1 s.2.2) (fun s => ∃ (k : Nat) (x : Int) (r : Nat), s = (x, (r : Int), (k : Int)) ∧ k ≤ n ∧ Near far S k x r) (fun s => n - s.2.2.toNat) (fun q => ∃ (x : Int) (r : Nat), q = (x, (r : Int)) ∧ Near far S n x r) (fun s hs => ?_) (s := (-1, 0, 0)) ⟨0, -1, 0, rfl, Nat.zero_le _, .inl ⟨rfl, rfl, fun v hv => by omega⟩⟩
  · obtain ⟨q, e, x, r, rfl, hN⟩ := key
    rw [e, Option.bind_some]
    exact ⟨x, r, rfl, hN⟩
  · obtain ⟨k, x, r, rfl, hk, hN⟩ := hs
    dsimp only
    unfold spec_l7Near.b0
    by_cases c : k < n
    · right
      have hix : ix far (k : Int) = some (far.getD k default) := ix_nat (by omega)
      have hp := pow31 (n := k) (by omega)
      have hrl : r < 2 ^ 31 := by
        rcases hN with ⟨_, e, _⟩ | ⟨_, e, _⟩
        · rw [e]; omega
        · rw [e]; exact lt31 (n := k) (by omega) (setOf_lt _ _)
      rw [if_pos (by omega), l1Has_eq hSl (by omega), Option.bind_some, Int.toNat_natCast, bnd_eq]
      -- what stays
      have skip : (S.testBit k = false ∨ far.getD k default < 0 ∨ (0 ≤ x ∧ x < far.getD k default)) → Near far S (k + 1) x r := by
        intro hs
        rcases hN with ⟨e1, e2, e3⟩ | ⟨e1, e2, ⟨v, v1, v2, v3⟩, e4⟩
        · refine .inl ⟨e1, e2, fun v hv hb => ?_⟩
          by_cases e : v = k
          · subst e
            rcases hs with g | g | g
            · rw [hb] at g; cases g
            · exact g
            · omega
          · exact e3 v (by omega) hb
        · refine .inr ⟨e1, ?_, ⟨v, by omega, v2, v3⟩, fun v hv hb => ?_⟩
          · rw [setOf_succ, if_neg, e2]
            rcases hs with g | g | g
            · rw [g]; simp
            · rw [decide_eq_false (by omega)]; simp
            · rw [decide_eq_false (by omega)]; simp
          · by_cases e : v = k
            · subst e
              rcases hs with g | g | g
              · rw [hb] at g; cases g
              · exact .inl g
              · exact .inr (by omega)
            · exact e4 v (by omega) hb
      by_cases hb : S.testBit k = true
      · by_cases hneg : far.getD k default < 0
        · rw [hb, Bool.not_true, Bool.not_false, whenO_t, hix, Option.bind_some, bnd_eq, decide_eq_true hneg, Bool.or_true, bnd_eq, Bool.not_true, Bool.false_and, whenO_f, Option.bind_some, if_pos (by simp), WS (by omega)]
          exact ⟨_, rfl, ⟨k + 1, x, r, rfl, c, skip (.inr (.inl hneg))⟩, by dsimp only; omega⟩
        · rw [hb, Bool.not_true, Bool.not_false, whenO_t, hix, Option.bind_some, bnd_eq, decide_eq_false hneg, Bool.or_self, bnd_eq, Bool.not_false, Bool.true_and]
          by_cases hx : x ≥ 0
          · rw [decide_eq_true hx, whenO_t, Option.bind_some, Bool.false_or, Bool.true_and]
            by_cases hgt : far.getD k default > x
            · rw [if_pos (by simpa using hgt), WS (by omega)]
              exact ⟨_, rfl, ⟨k + 1, x, r, rfl, c, skip (.inr (.inr ⟨hx, hgt⟩))⟩, by dsimp only; omega⟩
            · rw [if_neg (by simpa using hgt), bnd_eq, decide_eq_false (by omega), Bool.not_false, whenO_t, Option.bind_some, Bool.false_or]
              unfold spec_l7Near.k1
              rw [l1Bit_eq (by omega), Int.toNat_natCast, Option.bind_some, Option.bind_some, Option.bind_some]
              rcases hN with ⟨e1, e2, e3⟩ | ⟨e1, e2, ⟨v, v1, v2, v3⟩, e4⟩
              · omega
              · by_cases hlt : far.getD k default < x
                · rw [if_pos (by simpa using hlt), WS (by omega), show (0 : Int) = ((0 : Nat) : Int) from rfl, bOr_i (by omega) (by omega)]
                  refine ⟨_, rfl, ⟨k + 1, far.getD k default, 0 ||| 2 ^ k, rfl, c, .inr ⟨by omega, ?_, ⟨k, by omega, hb, rfl⟩, fun v hv hb' => ?_⟩⟩, by dsimp only; omega⟩
                  · rw [setOf_succ, if_pos (by rw [hb]; simp), setOf_zero fun v hv => ?_]
                    cases hv2 : S.testBit v with
                    | false => rfl
                    | true =>
                      have := e4 v hv hv2
                      rw [decide_eq_false (by omega)]; rfl
                  · by_cases e : v = k
                    · subst e; exact .inr (Int.le_refl _)
                    · have := e4 v (by omega) hb'; omega
                · rw [if_neg (by simpa using hlt), WS (by omega), bOr_i (by omega) (by omega)]
                  refine ⟨_, rfl, ⟨k + 1, x, r ||| 2 ^ k, rfl, c, .inr ⟨e1, ?_, ⟨v, by omega, v2, v3⟩, fun v hv hb' => ?_⟩⟩, by dsimp only; omega⟩
                  · rw [setOf_succ, if_pos (by rw [hb, decide_eq_true (by omega)]; rfl), e2]
                  · by_cases e : v = k
                    · subst e; exact .inr (by omega)
                    · exact e4 v (by omega) hb'
          · rw [decide_eq_false hx, whenO_f, Option.bind_some, Bool.false_or, Bool.false_and, if_neg (by simp), bnd_eq, decide_eq_true (by omega), Bool.not_true, whenO_f, Option.bind_some, Bool.true_or, if_pos rfl, Option.bind_some]
            unfold spec_l7Near.k1
            rw [l1Bit_eq (by omega), Int.toNat_natCast, Option.bind_some, WS (by omega), show (0 : Int) = ((0 : Nat) : Int) from rfl, bOr_i (by omega) (by omega)]
            rcases hN with ⟨e1, e2, e3⟩ | ⟨e1, _⟩
            · refine ⟨_, rfl, ⟨k + 1, far.getD k default, 0 ||| 2 ^ k, rfl, c, .inr ⟨by omega, ?_, ⟨k, by omega, hb, rfl⟩, fun v hv hb' => ?_⟩⟩, by dsimp only; omega⟩
              · rw [setOf_succ, if_pos (by rw [hb]; simp), setOf_zero fun v hv => ?_]
                cases hv2 : S.testBit v with
                | false => rfl
                | true =>
                  have := e3 v hv hv2
                  rw [decide_eq_false (by omega)]; rfl
              · by_cases e : v = k
                · subst e; exact .inr (Int.le_refl _)
                · exact .inl (e3 v (by omega) hb')
            · omega
      · rw [Bool.not_eq_true] at hb
        rw [hb, Bool.not_false, Bool.not_true, whenO_f, Option.bind_some, bnd_eq, Bool.true_or, bnd_eq, Bool.not_true, Bool.false_and, whenO_f, Option.bind_some, if_pos (by simp), WS (by omega)]
        exact ⟨_, rfl, ⟨k + 1, x, r, rfl, c, skip (.inl hb)⟩, by dsimp only; omega⟩
    · left
      obtain rfl : k = n := by omega
      rw [if_neg (by omega)]
      exact ⟨_, rfl, x, r, rfl, hN⟩
end Go.Proofs.Ythdclobnmicdaaa
