/- The states from which a good edge is passed again and again: the program and the reference find the same ones. -/
import Derived.Test.YthdclobnmicdaaaDAutoLive
import Derived.Test.YthdclobnmicdaaaPReach
namespace Go.Proofs.Ythdclobnmicdaaa
open Go Go.RowKit E
set_option linter.unusedVariables false

def orL {α : Type} (c : α → Bool) (t : α → Nat) (l : List α) (s : Nat) : Nat := l.foldl (fun s x => if c x = true then s ||| 2 ^ t x else s) s
theorem orL_bit {α : Type} (c : α → Bool) (t : α → Nat) : ∀ (l : List α) (s i : Nat), (orL c t l s).testBit i = true ↔ s.testBit i = true ∨ ∃ x ∈ l, c x = true ∧ t x = i
  | [], s, i => by simp [orL]
  | x :: l, s, i => by
    have e : orL c t (x :: l) s = orL c t l (if c x = true then s ||| 2 ^ t x else s) := rfl
    rw [e, orL_bit c t l]
    by_cases h : c x = true
    · rw [if_pos h, Nat.testBit_or, Bool.or_eq_true, Nat.testBit_two_pow, decide_eq_true_eq]
      constructor
      · rintro ((g | g) | ⟨y, hy, g⟩)
        · exact .inl g
        · exact .inr ⟨x, List.mem_cons_self, h, g⟩
        · exact .inr ⟨y, List.mem_cons_of_mem _ hy, g⟩
      · rintro (g | ⟨y, hy, g⟩)
        · exact .inl (.inl g)
        · rcases List.mem_cons.mp hy with rfl | hy
          · exact .inl (.inr g.2)
          · exact .inr ⟨y, hy, g⟩
    · rw [if_neg h]
      constructor
      · rintro (g | ⟨y, hy, g⟩)
        · exact .inl g
        · exact .inr ⟨y, List.mem_cons_of_mem _ hy, g⟩
      · rintro (g | ⟨y, hy, g⟩)
        · exact .inl g
        · rcases List.mem_cons.mp hy with rfl | hy
          · exact absurd g.1 h
          · exact .inr ⟨y, hy, g⟩
theorem orL_lt {α : Type} {c : α → Bool} {t : α → Nat} {l : List α} {s n : Nat} (hs : s < 2 ^ n) (h : ∀ x ∈ l, t x < n) : orL c t l s < 2 ^ n := by
  refine Nat.lt_pow_two_of_testBit _ fun i hi => ?_
  cases hb : (orL c t l s).testBit i with
  | false => rfl
  | true =>
    rcases (orL_bit c t l s i).mp hb with g | ⟨x, hx, _, g⟩
    · rw [Nat.testBit_lt_two_pow (Nat.lt_of_lt_of_le hs (Nat.pow_le_pow_right (by omega) hi))] at g; cases g
    · have := h x hx; omega
def intoN (a : TAuto) (v : Nat) : Nat := reachN a (2 ^ v)
theorem intoN_lt {a : TAuto} (h : AOk a) {v : Nat} (hv : v < a.states.toNat) : intoN a v < 2 ^ a.states.toNat := reachN_lt h (Nat.pow_lt_pow_right (by omega) hv)
theorem intoN_iff {a : TAuto} (h : AOk a) {v : Nat} (hv : v < a.states.toNat) (i : Nat) : (intoN a v).testBit i = true ↔ Rch (adjA a) v i := by
  unfold intoN
  rw [reachN_iff h (Nat.pow_lt_pow_right (by omega) hv)]
  constructor
  · rintro ⟨u, hu, hr⟩
    rw [Nat.testBit_two_pow, decide_eq_true_eq] at hu
    subst hu; exact hr
  · intro hr
    exact ⟨v, by rw [Nat.testBit_two_pow]; simp, hr⟩
def intoL (a : TAuto) : List Int := (List.range a.states.toNat).map fun v => (intoN a v : Int)
theorem intoL_get {a : TAuto} {v : Nat} (hv : v < a.states.toNat) : ix (intoL a) (v : Int) = some (intoN a v : Int) := by
  unfold intoL
  rw [ix_nat (by simpa using hv)]
  simp [List.getD_eq_getElem?_getD, hv]
/-- Good edges within a ring. -/
def ringE (a : TAuto) (e : TEdge) : Bool := e.good && (intoN a e.to_.toNat).testBit e.from_.toNat
def coreN (a : TAuto) : Nat := orL (ringE a) (fun e => e.from_.toNat) a.edges 0
def liveN (a : TAuto) : Nat := setOf (fun v => decide (intoN a v &&& coreN a ≠ 0)) a.states.toNat
theorem coreN_lt {a : TAuto} (h : AOk a) : coreN a < 2 ^ a.states.toNat := orL_lt (Nat.two_pow_pos _) fun e he => by have := h.edge e he; omega
theorem liveN_lt {a : TAuto} (h : AOk a) : liveN a < 2 ^ a.states.toNat := setOf_lt _ _
theorem and_ne (x y : Nat) : x &&& y ≠ 0 ↔ ∃ i, x.testBit i = true ∧ y.testBit i = true := by
  constructor
  · intro h
    refine Classical.byContradiction fun g => h (Nat.eq_of_testBit_eq fun i => ?_)
    rw [Nat.testBit_and, Nat.zero_testBit]
    cases hx : x.testBit i with
    | false => rfl
    | true =>
      cases hy : y.testBit i with
      | false => rfl
      | true => exact absurd ⟨i, hx, hy⟩ g
  · rintro ⟨i, hx, hy⟩ h
    have := congrArg (fun z => z.testBit i) h
    simp [Nat.testBit_and, hx, hy] at this
/-- What it says of a state. -/
theorem liveN_iff {a : TAuto} (h : AOk a) (v : Nat) : (liveN a).testBit v = true ↔ v < a.states.toNat ∧ ∃ e ∈ a.edges, e.good = true ∧ Rch (adjA a) e.to_.toNat e.from_.toNat ∧ Rch (adjA a) v e.from_.toNat := by
  unfold liveN
  rw [setOf_bit, Bool.and_eq_true, decide_eq_true_eq, decide_eq_true_eq, and_ne]
  constructor
  · rintro ⟨hv, i, h1, h2⟩
    rw [intoN_iff h hv] at h1
    rcases (orL_bit _ _ _ _ _).mp h2 with g | ⟨e, he, g1, rfl⟩
    · simp at g
    · unfold ringE at g1
      rw [Bool.and_eq_true, intoN_iff h (by have := h.edge e he; omega)] at g1
      exact ⟨hv, e, he, g1.1, g1.2, h1⟩
  · rintro ⟨hv, e, he, g1, g2, g3⟩
    refine ⟨hv, e.from_.toNat, (intoN_iff h hv _).mpr g3, (orL_bit _ _ _ _ _).mpr (.inr ⟨e, he, ?_, rfl⟩)⟩
    unfold ringE
    rw [Bool.and_eq_true, intoN_iff h (by have := h.edge e he; omega)]
    exact ⟨g1, g2⟩
theorem intoL_loop {a : TAuto} (h : AOk a) {body : List Int × Int → Option ((List Int × Int) ⊕ List Int)} (hb : ∀ y x, body (y, x) = if x < a.states then (spec_l1Bit x).bind fun a23 => (spec_l4Reach a a23).bind fun a24 => (app 8 y [a24]).bind fun z26 => some (.inl (z26, W (x + 1))) else some (.inr y)) : loop body ([], 0) = some (intoL a) := by
  have h1 := h.sts
  have key := loop_up (body := body) a.states.toNat (fun k => ((List.range k).map fun v => (intoN a v : Int), (k : Int))) (intoL a) (fun k hk => ?_) ?_ 0 (Nat.zero_le _)
  · exact key
  · rw [hb, if_pos (by omega), l1Bit_eq (by omega), Option.bind_some, Int.toNat_natCast, l4Reach_eq h (Nat.pow_lt_pow_right (by omega) hk), Option.bind_some, app_small (by simp; omega) (by decide), Option.bind_some, WS (by omega), List.range_succ, List.map_append]
    rfl
  · rw [hb, if_neg (by omega)]; rfl
theorem specLive_eq {a : TAuto} (hok : autoOk a = true) : spec_AutoLive a = some (liveN a : Int) := by
  have h := autoOk_A hok
  have h1 := h.sts; have h2 := h.num
  have h31 : (2 : Nat) ^ 31 = 2147483648 := rfl
  unfold spec_AutoLive
  rw [specAutoOk_eq, hok, Option.bind_some, if_neg (by simp), intoL_loop h (fun y x => rfl), Option.bind_some]
  unfold spec_AutoLive.k0
  have hcl := lt31 (by omega) (coreN_lt h)
  have k1 := fold_loopR (fun s : Nat => (s : Int)) (fun s : Nat => (s : Int)) a.edges (fun s e => if ringE a e = true then s ||| 2 ^ e.from_.toNat else s) (fun _ s => s < 2 ^ a.states.toNat) (body := fun s : Int × Int => spec_AutoLive.b1 a (intoL a) s.1 s.2) (fun k st hk hi => ?_) (fun st _ => by unfold spec_AutoLive.b1; rw [if_neg (by simp)]) 0 (Nat.two_pow_pos _)
  · have e1 : loop (fun s : Int × Int => spec_AutoLive.b1 a (intoL a) s.1 s.2) (0, 0) = some ((coreN a : Nat) : Int) := k1.1
    rw [e1, Option.bind_some]
    unfold spec_AutoLive.k1
    have k2 := range_loopR (fun s : Nat => (s : Int)) (fun s : Nat => (s : Int)) a.states.toNat (fun s v => if decide (intoN a v &&& coreN a ≠ 0) = true then s ||| 2 ^ v else s) (fun _ s => s < 2 ^ a.states.toNat) (body := fun s : Int × Int => spec_AutoLive.b0 a (intoL a) ((coreN a : Nat) : Int) s.1 s.2) (fun k st hk hi => ?_) (fun st _ => by unfold spec_AutoLive.b0; rw [if_neg (by dsimp only; omega)]) 0 (Nat.two_pow_pos _)
    · have e2 : loop (fun s : Int × Int => spec_AutoLive.b0 a (intoL a) ((coreN a : Nat) : Int) s.1 s.2) (0, 0) = some ((liveN a : Nat) : Int) := k2.1
      rw [e2]; rfl
    · have hil := lt31 (by omega) (intoN_lt h hk)
      have hst := lt31 (by omega) hi
      constructor
      · unfold spec_AutoLive.b0
        rw [if_pos (by dsimp only; omega)]
        dsimp only
        rw [intoL_get hk, Option.bind_some, bAnd_i (by omega) (by omega)]
        by_cases c : intoN a k &&& coreN a ≠ 0
        · have c' : ((intoN a k &&& coreN a : Nat) : Int) ≠ 0 := by omega
          rw [if_pos c', if_pos (by simpa using c), l1Bit_eq (by omega), Option.bind_some, Int.toNat_natCast, WS (by omega)]
          have hp := pow31 (n := k) (by omega)
          rw [bOr_i (by omega) (by omega)]
        · have c' : ¬ ((intoN a k &&& coreN a : Nat) : Int) ≠ 0 := by omega
          rw [if_neg c', if_neg (by simpa using c), WS (by omega)]
      · split
        · exact or_lt hi (Nat.pow_lt_pow_right (by omega) hk)
        · exact hi
  · have he := h.edge _ (getD_memL hk)
    have hst := lt31 (by omega) hi
    have hto : (a.edges.getD k default).to_.toNat < a.states.toNat := by omega
    have hil := lt31 (by omega) (intoN_lt h hto)
    have hix := intoL_get hto
    rw [Int.toNat_of_nonneg he.2.1.1] at hix
    constructor
    · unfold spec_AutoLive.b1
      rw [if_pos (by dsimp only; omega), ix_nat hk, Option.bind_some, bnd_eq]
      dsimp only
      unfold ringE
      cases hg : (a.edges.getD k default).good with
      | false =>
        rw [whenO_f, Option.bind_some, whenO_f, Option.bind_some, Bool.false_and, Bool.false_and, if_neg (by simp), if_neg (by simp), WS (by omega)]
      | true =>
        rw [whenO_t, hix, Option.bind_some, whenO_t, l1Has_eq hil (by omega), Option.bind_some, Bool.true_and]
        split
        · rw [l1Bit_eq (by omega), Option.bind_some, WS (by omega)]
          have hp := pow31 (n := (a.edges.getD k default).from_.toNat) (by omega)
          rw [bOr_i (by omega) (by omega)]
        · rw [WS (by omega)]
    · split
      · exact or_lt hi (Nat.pow_lt_pow_right (by omega) (by omega))
      · exact hi
/-- The rings of an automaton's states. -/
theorem autoRings {a : TAuto} (h : AOk a) : ∃ out, impl_graph_rings ⟨buildG a.states.toNat (stepsA a)⟩ = some out ∧ IsRings (buildG a.states.toNat (stepsA a)) out :=
  rings_eq (autoGraph_ok h) (back_eq (autoGraph_ok h) (autoGraph_total h)) (back_ok (autoGraph_ok h) (autoGraph_total h)) (buildG_len _ _) fun p u hp hu => back_adj (autoGraph_ok h) hp hu
theorem ringE_iff {a : TAuto} (h : AOk a) {out : List Int} (hR : IsRings (buildG a.states.toNat (stepsA a)) out) {e : TEdge} (he : e ∈ a.edges) : ringE a e = (e.good && decide (out.getD e.from_.toNat default = out.getD e.to_.toNat default)) := by
  have hE := h.edge e he
  unfold ringE
  congr 1
  have hlen := buildG_len a.states.toNat (stepsA a)
  have h1 := hR.iff e.from_.toNat e.to_.toNat (by omega) (by omega)
  rw [Bool.eq_iff_iff, decide_eq_true_eq, h1, intoN_iff h (by omega)]
  constructor
  · intro g; exact ⟨.one ((adjA_mem h _ _).mpr ⟨e, he, rfl, rfl⟩), g⟩
  · intro g; exact g.2
theorem implLive_eq {a : TAuto} (hok : autoOk a = true) : impl_Auto_live a = some (liveN a : Int) := by
  have h := autoOk_A hok
  have h1 := h.sts; have h2 := h.num
  have h31 : (2 : Nat) ^ 31 = 2147483648 := rfl
  have hlen := buildG_len a.states.toNat (stepsA a)
  obtain ⟨out, ho, hR⟩ := autoRings h
  have hol := hR.len
  unfold impl_Auto_live
  rw [autoGraph_eq h, Option.bind_some, ho, Option.bind_some]
  have k1 := fold_loopR (fun q : List Nat => ints q) (fun q : List Nat => ints q) a.edges (fun q e => if ringE a e = true then q ++ [e.from_.toNat] else q) (fun k q => q.length ≤ k ∧ (∀ x ∈ q, x < a.states.toNat)) (body := fun s : List Int × Int => impl_Auto_live.b1 a out s.1 s.2) (fun k q hk hi => ?_) (fun q _ => by unfold impl_Auto_live.b1; rw [if_neg (by simp)]) [] ⟨by simp, by simp⟩
  · have ends : ∀ (l : List TEdge) (q : List Nat) (i : Nat), i ∈ l.foldl (fun q e => if ringE a e = true then q ++ [e.from_.toNat] else q) q ↔ i ∈ q ∨ ∃ e ∈ l, ringE a e = true ∧ e.from_.toNat = i := by
      intro l
      induction l with
      | nil => intro q i; simp
      | cons e l ih =>
        intro q i
        rw [List.foldl_cons, ih]
        by_cases c : ringE a e = true
        · rw [if_pos c, List.mem_append, List.mem_singleton]
          constructor
          · rintro ((g | g) | ⟨x, hx, g⟩)
            · exact .inl g
            · exact .inr ⟨e, List.mem_cons_self, c, g.symm⟩
            · exact .inr ⟨x, List.mem_cons_of_mem _ hx, g⟩
          · rintro (g | ⟨x, hx, g⟩)
            · exact .inl (.inl g)
            · rcases List.mem_cons.mp hx with rfl | hx
              · exact .inl (.inr g.2.symm)
              · exact .inr ⟨x, hx, g⟩
        · rw [if_neg c]
          constructor
          · rintro (g | ⟨x, hx, g⟩)
            · exact .inl g
            · exact .inr ⟨x, List.mem_cons_of_mem _ hx, g⟩
          · rintro (g | ⟨x, hx, g⟩)
            · exact .inl g
            · rcases List.mem_cons.mp hx with rfl | hx
              · exact absurd g.1 c
              · exact .inr ⟨x, hx, g⟩
    have hE := ends a.edges []
    obtain ⟨e1, e2, e3⟩ := k1
    have e1' : loop (fun s : List Int × Int => impl_Auto_live.b1 a out s.1 s.2) ([], 0) = some (ints (a.edges.foldl (fun q e => if ringE a e = true then q ++ [e.from_.toNat] else q) [])) := e1
    rw [e1', Option.bind_some]
    generalize a.edges.foldl (fun q e => if ringE a e = true then q ++ [e.from_.toNat] else q) [] = q at e2 e3 hE
    unfold impl_Auto_live.k0
    rw [autoGraph_eq h, Option.bind_some, back_eq (autoGraph_ok h) (autoGraph_total h), Option.bind_some]
    have hgt := back_ok (autoGraph_ok h) (autoGraph_total h)
    have hgl : (buildG (buildG a.states.toNat (stepsA a)).length (stepsB (buildG a.states.toNat (stepsA a)) (List.range (buildG a.states.toNat (stepsA a)).length))).length = a.states.toNat := by rw [buildG_len, hlen]
    obtain ⟨far, f1, f2⟩ := far_eq hgt (src := q) (fun x hx => by rw [hgl]; exact e3 x hx) (by omega)
    rw [f1, Option.bind_some]
    have hfl := f2.len
    rw [hgl] at hfl
    have k2 := range_loopR (fun s : Nat => (s : Int)) (fun s : Nat => (s : Int)) a.states.toNat (fun s v => if decide (far.getD v default ≥ 0) = true then s ||| 2 ^ v else s) (fun _ s => s < 2 ^ a.states.toNat) (body := fun s : Int × Int => impl_Auto_live.b0 far s.1 s.2) (fun k st hk hi => ?_) (fun st _ => by unfold impl_Auto_live.b0; rw [if_neg (by dsimp only; omega)]) 0 (Nat.two_pow_pos _)
    · have e4 : loop (fun s : Int × Int => impl_Auto_live.b0 far s.1 s.2) (0, 0) = some ((setOf (fun v => decide (far.getD v default ≥ 0)) a.states.toNat : Nat) : Int) := k2.1
      rw [e4, Option.bind_some]
      unfold impl_Auto_live.k1
      congr 2
      refine Nat.eq_of_testBit_eq fun v => ?_
      rw [setOf_bit, Bool.eq_iff_iff, liveN_iff h, Bool.and_eq_true, decide_eq_true_eq, decide_eq_true_eq]
      refine and_congr_right fun hv => ?_
      have hradj : ∀ p u, p < a.states.toNat → u < a.states.toNat → (u ∈ adjG (buildG (buildG a.states.toNat (stepsA a)).length (stepsB (buildG a.states.toNat (stepsA a)) (List.range (buildG a.states.toNat (stepsA a)).length))) p ↔ p ∈ adjA a u) := fun p u hp hu => back_adj (autoGraph_ok h) (by omega) (by omega)
      have hadj : ∀ x, x < a.states.toNat → ∀ b ∈ adjA a x, b < a.states.toNat := fun x hx b hb => by
        have := (autoGraph_ok h).adj x (by omega) b hb; omega
      have hadj' : ∀ x, x < a.states.toNat → ∀ b ∈ adjG (buildG (buildG a.states.toNat (stepsA a)).length (stepsB (buildG a.states.toNat (stepsA a)) (List.range (buildG a.states.toNat (stepsA a)).length))) x, b < a.states.toNat := fun x hx b hb => by
        have := hgt.adj x (by omega) b hb; omega
      rcases f2.val v (by omega) with ⟨g1, g2⟩ | ⟨d, g1, ⟨s, g2, g3⟩, _⟩
      · constructor
        · intro g; omega
        · rintro ⟨e, he, k1, k2, k3⟩
          exfalso
          have hEd := h.edge e he
          refine g2 e.from_.toNat ((hE _).mpr (.inr ⟨e, he, ?_, rfl⟩)) ?_
          · unfold ringE; rw [Bool.and_eq_true, intoN_iff h (by omega)]; exact ⟨k1, k2⟩
          · exact Rch_rev hadj hradj k3 hv
      · constructor
        · intro _
          rcases (hE s).mp g2 with g | ⟨e, he, k1, rfl⟩
          · simp at g
          · have hEd := h.edge e he
            unfold ringE at k1
            rw [Bool.and_eq_true, intoN_iff h (by omega)] at k1
            refine ⟨e, he, k1.1, k1.2, ?_⟩
            exact Rch_rev hadj' (fun p u hp hu => (hradj u p hu hp).symm) g3.rch (by omega)
        · intro _; omega
    · have hst := lt31 (by omega) hi
      constructor
      · unfold impl_Auto_live.b0
        rw [if_pos (by dsimp only; omega)]
        dsimp only
        rw [ix_nat (by omega), Option.bind_some]
        by_cases c : far.getD k default ≥ 0
        · have hp := pow31 (n := k) (by omega)
          rw [if_pos c, if_pos (by simpa using c), only_eq (by omega), bOr_i (by omega) (by omega), WS (by omega)]
        · rw [if_neg c, if_neg (by simpa using c), WS (by omega)]
      · split
        · exact or_lt hi (Nat.pow_lt_pow_right (by omega) hk)
        · exact hi
  · obtain ⟨i1, i2⟩ := hi
    have hm := getD_memL hk
    have he := h.edge _ hm
    have hri := ringE_iff h hR hm
    have ix1 : ix out (a.edges.getD k default).from_ = some (out.getD (a.edges.getD k default).from_.toNat default) := ix_ok (by omega) (by omega)
    have ix2 : ix out (a.edges.getD k default).to_ = some (out.getD (a.edges.getD k default).to_.toNat default) := ix_ok (by omega) (by omega)
    constructor
    · unfold impl_Auto_live.b1
      rw [if_pos (by dsimp only; omega), ix_nat hk, Option.bind_some, bnd_eq]
      dsimp only
      rw [hri]
      cases hg : (a.edges.getD k default).good with
      | false =>
        rw [whenO_f, Option.bind_some, whenO_f, Option.bind_some, Bool.false_and, if_neg (by simp), Bool.false_and, if_neg (by simp), WS (by omega)]
      | true =>
        rw [whenO_t, ix1, Option.bind_some, whenO_t, ix2, Option.bind_some, Bool.true_and]
        split
        · rw [app_small (by simp; omega) (by decide), Option.bind_some, WS (by omega), ints_snoc, Int.toNat_of_nonneg he.1.1]
        · rw [WS (by omega)]
    · split
      · refine ⟨by simp; omega, fun x hx => ?_⟩
        rcases List.mem_append.mp hx with g | g
        · exact i2 x g
        · rw [List.mem_singleton.mp g]; omega
      · exact ⟨by omega, i2⟩
end Go.Proofs.Ythdclobnmicdaaa
