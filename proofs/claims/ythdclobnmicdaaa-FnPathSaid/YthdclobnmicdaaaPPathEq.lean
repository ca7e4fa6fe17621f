/- A word that leads from a set of states to a state: the program finds the one the reference finds. -/
import Derived.Test.YthdclobnmicdaaaDPath
import Derived.Test.YthdclobnmicdaaaWf
import Derived.Test.YthdclobnmicdaaaPFar
namespace Go.Proofs.Ythdclobnmicdaaa
open Go Go.RowKit E
set_option linter.unusedVariables false

def atN (far : List Int) (n : Nat) (d : Int) : Nat := setOf (fun v => decide (far.getD v default = d)) n
theorem at_eq {far : List Int} {n : Nat} (hn : n ≤ 31) (hf : far.length = n) (d : Int) : impl_Auto_pathWord_1 d far = some ((atN far n d : Nat) : Int) := by
  have h31 : (2 : Nat) ^ 31 = 2147483648 := rfl
  unfold impl_Auto_pathWord_1
  have k := range_loopR (fun s : Nat => (s : Int)) (fun s : Nat => (s : Int)) n (fun s v => if decide (far.getD v default = d) = true then s ||| 2 ^ v else s) (fun _ s => s < 2 ^ n) (body := fun s : Int × Int => impl_Auto_pathWord_1.b0 far d s.1 s.2) (fun k st hk hi => ?_) (fun st _ => by unfold impl_Auto_pathWord_1.b0; rw [if_neg (by dsimp only; omega)]) 0 (Nat.two_pow_pos _)
  · have e : loop (fun s : Int × Int => impl_Auto_pathWord_1.b0 far d s.1 s.2) (0, 0) = some ((atN far n d : Nat) : Int) := k.1
    rw [e]; rfl
  · have hst := lt31 hn hi
    have hp := pow31 (n := k) (by omega)
    constructor
    · unfold impl_Auto_pathWord_1.b0
      dsimp only
      rw [if_pos (by omega), ix_nat (by omega), Option.bind_some]
      by_cases c : far.getD k default = d
      · rw [if_pos c, if_pos (by simpa using c), only_eq (by omega), bOr_i (by omega) (by omega), WS (by omega)]
      · rw [if_neg c, if_neg (by simpa using c), WS (by omega)]
    · split
      · exact or_lt hi (Nat.pow_lt_pow_right (by omega) hk)
      · exact hi
def goE (S : Nat) (x : Int) (e : TEdge) : Bool := decide (e.letter = x) && S.testBit e.from_.toNat
def stepE (a : TAuto) (S : Nat) (x : Int) : Nat := orL (goE S x) (fun e => e.to_.toNat) a.edges 0
theorem stepE_lt {a : TAuto} (h : AOk a) (S : Nat) (x : Int) : stepE a S x < 2 ^ a.states.toNat := orL_lt (Nat.two_pow_pos _) fun e he => by have := h.edge e he; omega
theorem stepE_bit (a : TAuto) (S : Nat) (x : Int) (i : Nat) : (stepE a S x).testBit i = true ↔ ∃ e ∈ a.edges, e.letter = x ∧ S.testBit e.from_.toNat = true ∧ e.to_.toNat = i := by
  unfold stepE
  rw [orL_bit]
  constructor
  · rintro (g | ⟨e, he, g, rfl⟩)
    · simp at g
    · unfold goE at g
      rw [Bool.and_eq_true, decide_eq_true_eq] at g
      exact ⟨e, he, g.1, g.2, rfl⟩
  · rintro ⟨e, he, g1, g2, rfl⟩
    exact .inr ⟨e, he, by unfold goE; rw [Bool.and_eq_true, decide_eq_true_eq]; exact ⟨g1, g2⟩, rfl⟩
theorem l4Next_eq {a : TAuto} (h : AOk a) {S : Nat} (hS : S < 2 ^ a.states.toNat) (x : Int) : spec_l4Next a (S : Int) x = some ((stepE a S x : Nat) : Int) := by
  have h1 := h.sts; have h2 := h.num
  have h31 : (2 : Nat) ^ 31 = 2147483648 := rfl
  have hSl := lt31 (by omega) hS
  unfold spec_l4Next
  have k := fold_loopR (fun s : Nat => (s : Int)) (fun s : Nat => (s : Int)) a.edges (fun s e => if goE S x e = true then s ||| 2 ^ e.to_.toNat else s) (fun _ s => s < 2 ^ a.states.toNat) (body := fun s : Int × Int => spec_l4Next.b0 a x (S : Int) s.1 s.2) (fun k st hk hi => ?_) (fun st _ => by unfold spec_l4Next.b0; rw [if_neg (by simp)]) 0 (Nat.two_pow_pos _)
  · have e : loop (fun s : Int × Int => spec_l4Next.b0 a x (S : Int) s.1 s.2) (0, 0) = some ((stepE a S x : Nat) : Int) := k.1
    rw [e]; rfl
  · have hE := h.edge _ (getD_memL hk)
    have hst := lt31 (by omega) hi
    have hp := pow31 (n := (a.edges.getD k default).to_.toNat) (by omega)
    constructor
    · unfold spec_l4Next.b0
      dsimp only
      rw [if_pos (by omega), ix_nat hk, Option.bind_some, bnd_eq]
      unfold goE
      cases hl : decide ((a.edges.getD k default).letter = x) with
      | false => rw [whenO_f, Option.bind_some, Bool.false_and, if_neg (by simp), Bool.false_and, if_neg (by simp), WS (by omega)]
      | true =>
        rw [whenO_t, l1Has_eq hSl (by omega), Option.bind_some, Bool.true_and]
        split
        · rw [l1Bit_eq (by omega), Option.bind_some, bOr_i (by omega) (by omega), WS (by omega)]
        · rw [WS (by omega)]
    · split
      · exact or_lt hi (Nat.pow_lt_pow_right (by omega) (by omega))
      · exact hi
theorem step_eq {a : TAuto} (h : AOk a) {S : Nat} (hS : S < 2 ^ a.states.toNat) (x : Int) : impl_Auto_step a (S : Int) x = some ((stepE a S x : Nat) : Int) := by
  have h1 := h.sts; have h2 := h.num
  have h31 : (2 : Nat) ^ 31 = 2147483648 := rfl
  have hSl := lt31 (by omega) hS
  unfold impl_Auto_step
  have k := fold_loopR (fun s : Nat => (s : Int)) (fun s : Nat => (s : Int)) a.edges (fun s e => if goE S x e = true then s ||| 2 ^ e.to_.toNat else s) (fun _ s => s < 2 ^ a.states.toNat) (body := fun s : Int × Int => impl_Auto_step.b0 a x (S : Int) s.1 s.2) (fun k st hk hi => ?_) (fun st _ => by unfold impl_Auto_step.b0; rw [if_neg (by simp)]) 0 (Nat.two_pow_pos _)
  · have e : loop (fun s : Int × Int => impl_Auto_step.b0 a x (S : Int) s.1 s.2) (0, 0) = some ((stepE a S x : Nat) : Int) := k.1
    rw [e]; rfl
  · have hE := h.edge _ (getD_memL hk)
    have hst := lt31 (by omega) hi
    have hp := pow31 (n := (a.edges.getD k default).to_.toNat) (by omega)
    constructor
    · unfold impl_Auto_step.b0
      dsimp only
      rw [if_pos (by omega), ix_nat hk, Option.bind_some, bnd_eq, has_eq hSl (by omega)]
      have ho := only_eq (n := (a.edges.getD k default).to_.toNat) (by omega)
      rw [Int.toNat_of_nonneg hE.2.1.1] at ho
      unfold goE
      split
      · rw [ho, bOr_i (by omega) (by omega), WS (by omega)]
      · rw [WS (by omega)]
    · split
      · exact or_lt hi (Nat.pow_lt_pow_right (by omega) (by omega))
      · exact hi
theorem least_of {P : Nat → Prop} : ∀ n, P n → ∃ m, m ≤ n ∧ P m ∧ ∀ y, y < m → ¬ P y := by
  intro n
  induction n using Nat.strongRecOn with
  | _ n ih =>
    intro h
    by_cases c : ∃ y, y < n ∧ P y
    · obtain ⟨y, h1, h2⟩ := c
      obtain ⟨m, g1, g2, g3⟩ := ih y h1 h2
      exact ⟨m, by omega, g2, g3⟩
    · exact ⟨n, Nat.le_refl _, h, fun y hy hp => c ⟨y, hy, hp⟩⟩
theorem stepE_mono {a : TAuto} {S N : Nat} (h : ∀ v, S.testBit v = true → N.testBit v = true) (x : Int) (v : Nat) (hv : (stepE a S x).testBit v = true) : (stepE a N x).testBit v = true := by
  obtain ⟨e, he, h1, h2, h3⟩ := (stepE_bit _ _ _ _).mp hv
  exact (stepE_bit _ _ _ _).mpr ⟨e, he, h1, h _ h2, h3⟩
theorem far_zero {a : TAuto} {t : Nat} {far : List Int} (hF : IsFar (rvA a) a.states.toNat [t] far) {v : Nat} (hv : v < a.states.toNat) (h : far.getD v default = 0) : v = t := by
  rcases hF.val v hv with ⟨g, _⟩ | ⟨d, g, ⟨s, g2, g3⟩, _⟩
  · omega
  · obtain rfl : d = 0 := by omega
    rw [List.mem_singleton] at g2
    subst g2
    cases g3; rfl
theorem far_self {a : TAuto} {t : Nat} {far : List Int} (hF : IsFar (rvA a) a.states.toNat [t] far) (ht : t < a.states.toNat) : far.getD t default = 0 := by
  rcases hF.val t ht with ⟨_, g⟩ | ⟨d, g, _, g4⟩
  · exact absurd (.refl t) (g t (by simp))
  · have := g4 t (by simp) 0 .zero; omega
/-- The walk of both, letter by letter. -/
theorem walk_loops {a : TAuto} (h : AOk a) {t : Nat} {far : List Int} (hF : IsFar (rvA a) a.states.toNat [t] far) : ∀ (d now : Nat) (word : List Int), now < 2 ^ a.states.toNat → (∃ v, v < a.states.toNat ∧ now.testBit v = true) → (∀ v, v < a.states.toNat → now.testBit v = true → far.getD v default = (d : Int)) → word.length + d ≤ 1000000 →
    ∃ ws : List Int, loop (fun s : List Int × Int × Int => spec_PathWord.b0 a far s.1 s.2.1 s.2.2) (word, (now : Int), (d : Int)) = some (word ++ ws) ∧ loop (fun s : Int × Int × List Int => impl_Auto_pathWord.b0 far a s.1 s.2.1 s.2.2) ((now : Int), (d : Int), word) = some (word ++ ws) ∧ ws.length = d ∧
      ∀ N : Nat, (∀ v, now.testBit v = true → N.testBit v = true) → ∃ v, v < a.states.toNat ∧ (ws.foldl (stepE a) N).testBit v = true ∧ far.getD v default = 0 := by
  have h1 := h.sts; have h2 := h.num; have h3 := h.lets
  have h31 : (2 : Nat) ^ 31 = 2147483648 := rfl
  have hfl := hF.len
  intro d
  induction d with
  | zero =>
    intro now word _ hne hall hw
    refine ⟨[], loop_end ?_, loop_end ?_, rfl, fun N hN => ?_⟩
    · dsimp only; unfold spec_PathWord.b0; rw [if_neg (by omega), List.append_nil]
    · dsimp only; unfold impl_Auto_pathWord.b0; rw [if_neg (by omega), List.append_nil]
    · obtain ⟨v, v1, v2⟩ := hne
      exact ⟨v, v1, hN v v2, by rw [hall v v1 v2]; rfl⟩
  | succ d ih =>
    intro now word hn hne hall hw
    have wd : W (((d + 1 : Nat) : Int) - 1) = (d : Int) := by rw [W, W_eq (by omega) (by omega)]; omega
    -- a letter that leads nearer
    have hP : ∃ x : Nat, (x : Int) < a.letters ∧ stepE a now (x : Int) &&& atN far a.states.toNat d ≠ 0 := by
      obtain ⟨v, v1, v2⟩ := hne
      have hfv := hall v v1 v2
      obtain ⟨e, he, e1, e2⟩ := far_next h hF v1 (by omega)
      have hE := h.edge e he
      refine ⟨e.letter.toNat, by omega, (and_ne _ _).mpr ⟨e.to_.toNat, (stepE_bit _ _ _ _).mpr ⟨e, he, by omega, by rw [e1]; exact v2, rfl⟩, ?_⟩⟩
      unfold atN
      rw [setOf_bit, decide_eq_true (by omega), decide_eq_true (by omega)]; rfl
    obtain ⟨x1, hx1, hx2⟩ := hP
    obtain ⟨x0, hx0, hp0, hmin⟩ := least_of (P := fun x : Nat => stepE a now (x : Int) &&& atN far a.states.toNat d ≠ 0) x1 hx2
    -- what the reference asks
    have ask : ∀ k : Nat, ∃ (x : Int) (r : Nat), spec_l7Near far ((stepE a now (k : Int) : Nat) : Int) = some ((r : Int), x) ∧ (x = (d : Int) ↔ stepE a now (k : Int) &&& atN far a.states.toNat d ≠ 0) ∧ (x = (d : Int) → r = stepE a now (k : Int) &&& atN far a.states.toNat d) := by
      intro k
      obtain ⟨x, r, e, hN⟩ := near_eq (by omega) hfl (stepE_lt h now (k : Int))
      have hset : setOf (fun v => (stepE a now (k : Int)).testBit v && decide (far.getD v default = (d : Int))) a.states.toNat = stepE a now (k : Int) &&& atN far a.states.toNat d := by
        refine Nat.eq_of_testBit_eq fun i => ?_
        unfold atN
        rw [setOf_bit, Nat.testBit_and, setOf_bit]
        cases (stepE a now (k : Int)).testBit i <;> cases decide (i < a.states.toNat) <;> cases decide (far.getD i default = (d : Int)) <;> rfl
      have low : ∀ v, v < a.states.toNat → (stepE a now (k : Int)).testBit v = true → far.getD v default < 0 ∨ (d : Int) ≤ far.getD v default := by
        intro v hv hb
        obtain ⟨ed, he, _, g2, g3⟩ := (stepE_bit _ _ _ _).mp hb
        have hE := h.edge ed he
        by_cases c : 0 ≤ far.getD ed.to_.toNat default
        · have := (far_edge h hF he c).2
          have hu := hall ed.from_.toNat (by omega) g2
          rw [g3] at this; omega
        · rw [g3] at c; omega
      refine ⟨x, r, e, ⟨fun hx => ?_, fun hx => ?_⟩, fun hx => ?_⟩
      · rcases hN with ⟨e1, _⟩ | ⟨e1, e2, ⟨v, v1, v2, v3⟩, _⟩
        · omega
        · refine (and_ne _ _).mpr ⟨v, v2, ?_⟩
          unfold atN
          rw [setOf_bit, decide_eq_true v1, decide_eq_true (by omega)]; rfl
      · obtain ⟨v, v2, v3⟩ := (and_ne _ _).mp hx
        unfold atN at v3
        rw [setOf_bit, Bool.and_eq_true, decide_eq_true_eq, decide_eq_true_eq] at v3
        rcases hN with ⟨e1, _, e3⟩ | ⟨e1, e2, ⟨u, u1, u2, u3⟩, e4⟩
        · have := e3 v v3.1 v2; omega
        · have a1 := e4 v v3.1 v2
          have a2 := low u u1 u2
          omega
      · subst hx
        rcases hN with ⟨e1, _⟩ | ⟨_, e2, _⟩
        · omega
        · rw [e2, hset]
    have hat := at_eq (by omega : a.states.toNat ≤ 31) hfl (d : Int)
    have hatl : atN far a.states.toNat d < 2 ^ a.states.toNat := setOf_lt _ _
    have innerS : ∀ j k : Nat, k + j = x0 → loop (fun s : List Int × Int × Int => spec_PathWord.b1 a far ((d + 1 : Nat) : Int) s.1 s.2.1 s.2.2) (word, (now : Int), (k : Int)) = some (word ++ [(x0 : Int)], ((stepE a now (x0 : Int) &&& atN far a.states.toNat d : Nat) : Int)) := by
      intro j
      induction j with
      | zero =>
        intro k hk
        obtain rfl : k = x0 := by omega
        refine loop_end ?_
        obtain ⟨x, r, q1, q2, q3⟩ := ask k
        have hx := q2.mpr hp0
        dsimp only
        unfold spec_PathWord.b1
        rw [if_pos (by omega), l4Next_eq h hn, Option.bind_some, q1, Option.bind_some]
        dsimp only
        rw [wd, if_pos hx, app_small (by simp; omega) (by decide), Option.bind_some, q3 hx]
      | succ j ihj =>
        intro k hk
        obtain ⟨x, r, q1, q2, q3⟩ := ask k
        have hx : ¬ x = (d : Int) := fun e => hmin k (by omega) (q2.mp e)
        rw [loop_go (s' := (word, (now : Int), ((k + 1 : Nat) : Int)))]
        · exact ihj (k + 1) (by omega)
        · dsimp only
          unfold spec_PathWord.b1
          rw [if_pos (by omega), l4Next_eq h hn, Option.bind_some, q1, Option.bind_some]
          dsimp only
          rw [wd, if_neg hx, WS (by omega)]
    have innerI : ∀ j k : Nat, k + j = x0 → loop (fun s : Int × List Int × Int => impl_Auto_pathWord.b1 a ((atN far a.states.toNat d : Nat) : Int) s.1 s.2.1 s.2.2) ((now : Int), word, (k : Int)) = some (((stepE a now (x0 : Int) &&& atN far a.states.toNat d : Nat) : Int), word ++ [(x0 : Int)]) := by
      have hal := lt31 (by omega) hatl
      intro j
      induction j with
      | zero =>
        intro k hk
        obtain rfl : k = x0 := by omega
        have hsl := lt31 (by omega) (stepE_lt h now (k : Int))
        refine loop_end ?_
        dsimp only
        unfold impl_Auto_pathWord.b1
        rw [if_pos (by omega), step_eq h hn, Option.bind_some, bAnd_i (by omega) (by omega), if_pos (by omega), app_small (by simp; omega) (by decide), Option.bind_some]
      | succ j ihj =>
        intro k hk
        have hsl := lt31 (by omega) (stepE_lt h now (k : Int))
        have hz : stepE a now (k : Int) &&& atN far a.states.toNat d = 0 := Classical.byContradiction fun g => hmin k (by omega) g
        rw [loop_go (s' := ((now : Int), word, ((k + 1 : Nat) : Int)))]
        · exact ihj (k + 1) (by omega)
        · dsimp only
          unfold impl_Auto_pathWord.b1
          rw [if_pos (by omega), step_eq h hn, Option.bind_some, bAnd_i (by omega) (by omega), hz, if_neg (by simp), WS (by omega)]
    have hlt : stepE a now (x0 : Int) &&& atN far a.states.toNat d < 2 ^ a.states.toNat := and_lt (stepE_lt h _ _)
    obtain ⟨ws, r1, r2, r3, r4⟩ := ih (stepE a now (x0 : Int) &&& atN far a.states.toNat d) (word ++ [(x0 : Int)]) hlt (by
      obtain ⟨v, v1, v2⟩ := (and_ne _ _).mp hp0
      unfold atN at v2
      have v3 := v2
      rw [setOf_bit, Bool.and_eq_true, decide_eq_true_eq] at v3
      exact ⟨v, v3.1, by rw [Nat.testBit_and, v1]; exact v2⟩) (fun v hv hb => by
      rw [Nat.testBit_and, Bool.and_eq_true] at hb
      have := hb.2
      unfold atN at this
      rw [setOf_bit, Bool.and_eq_true, decide_eq_true_eq, decide_eq_true_eq] at this
      exact this.2) (by simp; omega)
    rw [List.append_assoc, List.singleton_append] at r1 r2
    refine ⟨(x0 : Int) :: ws, ?_, ?_, by simp [r3], fun N hN => r4 (stepE a N (x0 : Int)) fun v hv => ?_⟩
    · rw [loop_go (s' := (word ++ [(x0 : Int)], ((stepE a now (x0 : Int) &&& atN far a.states.toNat d : Nat) : Int), (d : Int)))]
      · exact r1
      · dsimp only
        unfold spec_PathWord.b0
        have e0 : loop (fun s : List Int × Int × Int => spec_PathWord.b1 a far ((d + 1 : Nat) : Int) s.1 s.2.1 s.2.2) (word, (now : Int), 0) = _ := innerS x0 0 (by omega)
        rw [if_pos (by omega), e0, Option.bind_some]
        unfold spec_PathWord.k1
        rw [wd]
    · rw [loop_go (s' := (((stepE a now (x0 : Int) &&& atN far a.states.toNat d : Nat) : Int), (d : Int), word ++ [(x0 : Int)]))]
      · exact r2
      · dsimp only
        unfold impl_Auto_pathWord.b0
        have e0 : loop (fun s : Int × List Int × Int => impl_Auto_pathWord.b1 a ((atN far a.states.toNat d : Nat) : Int) s.1 s.2.1 s.2.2) ((now : Int), word, 0) = _ := innerI x0 0 (by omega)
        rw [if_pos (by omega), wd, hat, Option.bind_some, e0, Option.bind_some]
        unfold impl_Auto_pathWord.k2
        rw [wd]
    · rw [Nat.testBit_and, Bool.and_eq_true] at hv
      exact stepE_mono hN _ v hv.1
/-- The least distance of a set's members, by the program. -/
theorem left_eq {far : List Int} {n : Nat} (hn : n ≤ 31) (hf : far.length = n) (S : Nat) {x : Int} {r : Nat} (hN : Near far S n x r) : loop (fun s : Int × Int => impl_Auto_pathWord.b2 (ints (wasN S n)) far s.1 s.2) (-1, 0) = some x := by
  have hwl := wasN_len S n
  have hil : (ints (wasN S n)).length = (wasN S n).length := by simp
  have key := loop_inv (body := fun s : Int × Int => impl_Auto_pathWord.b2 (ints (wasN S n)) far s.1 s.2) (fun s => ∃ (k : Nat), s.2 = (k : Int) ∧ k ≤ (wasN S n).length ∧ ((s.1 = -1 ∧ ∀ j, j < k → far.getD ((wasN S n).getD j 0) default < 0) ∨ (0 ≤ s.1 ∧ (∃ j, j < k ∧ far.getD ((wasN S n).getD j 0) default = s.1) ∧ ∀ j, j < k → far.getD ((wasN S n).getD j 0) default < 0 ∨ s.1 ≤ far.getD ((wasN S n).getD j 0) default))) (fun s => (wasN S n).length - s.2.toNat) (fun q => q = x) (fun s hs => ?_) (s := (-1, 0)) ⟨0, rfl, Nat.zero_le _, .inl ⟨rfl, fun j hj => by omega⟩⟩
  · obtain ⟨q, e, rfl⟩ := key; exact e
  · obtain ⟨m, k0⟩ := s
    obtain ⟨k, e0, hk, hI⟩ := hs
    dsimp only at e0 hI ⊢
    subst e0
    unfold impl_Auto_pathWord.b2
    by_cases c : k < (wasN S n).length
    · right
      have hmem : (wasN S n).getD k 0 ∈ wasN S n := by rw [List.getD_eq_getElem?_getD, List.getElem?_eq_getElem c]; exact List.getElem_mem c
      have hm := wasN_mem.mp hmem
      have hix : ix (ints (wasN S n)) (k : Int) = some (((wasN S n).getD k 0 : Nat) : Int) := ints_get c
      have hfx : ix far (((wasN S n).getD k 0 : Nat) : Int) = some (far.getD ((wasN S n).getD k 0) default) := ix_nat (by omega)
      rw [if_pos (by rw [hil]; omega), hix, Option.bind_some, hfx, Option.bind_some, bnd_eq, bnd_eq]
      generalize hfv : far.getD ((wasN S n).getD k 0) default = fv at *
      by_cases g1 : fv ≥ 0
      · by_cases g2 : m < 0
        · rw [decide_eq_true g1, decide_eq_true g2, Bool.not_true, Bool.and_false, whenO_f, Option.bind_some, Bool.true_or, Bool.and_self, if_pos rfl, Option.bind_some, WS (by omega)]
          refine ⟨_, rfl, ⟨k + 1, rfl, c, .inr ⟨g1, ⟨k, by omega, hfv⟩, fun j hj => ?_⟩⟩, by dsimp only; omega⟩
          by_cases e : j = k
          · subst e; right; rw [hfv]; exact Int.le_refl _
          · rcases hI with ⟨_, i2⟩ | ⟨i1, _⟩
            · exact .inl (i2 j (by omega))
            · omega
        · rw [decide_eq_true g1, decide_eq_false g2, Bool.not_false, Bool.and_self, whenO_t, Option.bind_some, Bool.false_or, Bool.true_and]
          by_cases g3 : fv < m
          · rw [if_pos (by simpa using g3), Option.bind_some, WS (by omega)]
            refine ⟨_, rfl, ⟨k + 1, rfl, c, .inr ⟨g1, ⟨k, by omega, hfv⟩, fun j hj => ?_⟩⟩, by dsimp only; omega⟩
            by_cases e : j = k
            · subst e; right; rw [hfv]; exact Int.le_refl _
            · rcases hI with ⟨i1, _⟩ | ⟨_, _, i3⟩
              · omega
              · have := i3 j (by omega); dsimp only; omega
          · rw [if_neg (by simpa using g3), WS (by omega)]
            refine ⟨_, rfl, ⟨k + 1, rfl, c, ?_⟩, by dsimp only; omega⟩
            rcases hI with ⟨i1, _⟩ | ⟨i1, ⟨j0, j1, j2⟩, i3⟩
            · omega
            · refine .inr ⟨i1, ⟨j0, by omega, j2⟩, fun j hj => ?_⟩
              by_cases e : j = k
              · subst e; right; rw [hfv]; dsimp only; omega
              · exact i3 j (by omega)
      · rw [decide_eq_false g1, Bool.false_and, whenO_f, Option.bind_some, Bool.false_and, if_neg (by simp), WS (by omega)]
        refine ⟨_, rfl, ⟨k + 1, rfl, c, ?_⟩, by dsimp only; omega⟩
        rcases hI with ⟨i1, i2⟩ | ⟨i1, ⟨j0, j1, j2⟩, i3⟩
        · refine .inl ⟨i1, fun j hj => ?_⟩
          by_cases e : j = k
          · subst e; rw [hfv]; omega
          · exact i2 j (by omega)
        · refine .inr ⟨i1, ⟨j0, by omega, j2⟩, fun j hj => ?_⟩
          by_cases e : j = k
          · subst e; left; rw [hfv]; omega
          · exact i3 j (by omega)
    · left
      obtain rfl : k = (wasN S n).length := by omega
      rw [if_neg (by rw [hil]; omega)]
      refine ⟨_, rfl, ?_⟩
      have toJ : ∀ v, v < n → S.testBit v = true → ∃ j, j < (wasN S n).length ∧ (wasN S n).getD j 0 = v := fun v hv hb => by
        obtain ⟨j, hj, e⟩ := List.getElem_of_mem (wasN_mem.mpr ⟨hv, hb⟩)
        exact ⟨j, hj, by rw [List.getD_eq_getElem?_getD, List.getElem?_eq_getElem hj, e]; rfl⟩
      have toV : ∀ j, j < (wasN S n).length → (wasN S n).getD j 0 < n ∧ S.testBit ((wasN S n).getD j 0) = true := fun j hj => by
        refine wasN_mem.mp ?_
        rw [List.getD_eq_getElem?_getD, List.getElem?_eq_getElem hj]; exact List.getElem_mem hj
      rcases hI with ⟨i1, i2⟩ | ⟨i1, ⟨j0, j1, j2⟩, i3⟩
      · rcases hN with ⟨n1, _⟩ | ⟨n1, _, ⟨v, v1, v2, v3⟩, _⟩
        · omega
        · obtain ⟨j, g1, g2⟩ := toJ v v1 v2
          have := i2 j g1
          rw [g2] at this; omega
      · have t0 := toV j0 j1
        rcases hN with ⟨n1, _, n3⟩ | ⟨n1, _, ⟨v, v1, v2, v3⟩, n4⟩
        · have := n3 _ t0.1 t0.2; omega
        · have a1 := n4 _ t0.1 t0.2
          obtain ⟨j, g1, g2⟩ := toJ v v1 v2
          have a2 := i3 j g1
          rw [g2] at a2; omega
/-- Both find the same word. -/
theorem path_same (a : TAuto) (s t : Int) : ∃ (r : List Int) (b : Bool), spec_PathWord a s t = some (r, b) ∧ impl_PathWord a s t = some (r, b) ∧ r.length ≤ 1000 ∧ (b = false → r = []) ∧
    (b = true → autoOk a = true ∧ ∃ (S T : Nat) (far : List Int), s = (S : Int) ∧ t = (T : Int) ∧ S < 2 ^ a.states.toNat ∧ T < a.states.toNat ∧ IsFar (rvA a) a.states.toNat [T] far ∧ r.length ≤ a.states.toNat ∧ (∀ v, v < a.states.toNat → S.testBit v = true → far.getD v default < 0 ∨ (r.length : Int) ≤ far.getD v default) ∧ (r.foldl (stepE a) S).testBit T = true) := by
  have h31 : (2 : Nat) ^ 31 = 2147483648 := rfl
  unfold spec_PathWord impl_PathWord
  rw [specAutoOk_eq, implAutoOk_eq, Option.bind_some, Option.bind_some, bnd_eq, bnd_eq]
  by_cases hok : autoOk a = true
  · have h := autoOk_A hok
    have h1 := h.sts
    have hp := pow31 (n := a.states.toNat) (by omega)
    have es : a.states = ((a.states.toNat : Nat) : Int) := by omega
    have hin : spec_SetIn s (W (shl .i64 1 a.states - 1)) = decide (0 ≤ s ∧ s < ((2 ^ a.states.toNat : Nat) : Int)) := by
      have := setIn_eq s (n := a.states.toNat) (by omega)
      rw [← es] at this; exact this
    have honly : impl_only a.states = ((2 ^ a.states.toNat : Nat) : Int) := by rw [es, Int.toNat_natCast]; exact only_eq (by omega)
    have hst : spec_l4State t a.states = decide (0 ≤ t ∧ t ≤ a.states - 1) := by
      unfold spec_l4State
      rw [l1Rg, W, W_eq (by omega) (by omega)]
    have hir : impl_inRange t 0 (W (a.states - 1)) = decide (0 ≤ t ∧ t ≤ a.states - 1) := by rw [inRg, W, W_eq (by omega) (by omega)]
    have hso : impl_SetOk s = decide (0 ≤ s ∧ s ≤ 2147483647) := by unfold impl_SetOk; rw [inRg]
    rw [hok, Bool.not_true, Bool.not_false, whenO_t, decide_eq_true h1.1, chk_t, Option.bind_some, bnd_eq, hin, hst, hir, hso, honly, bnd_eq, bnd_eq]
    simp only [Bool.false_or]
    by_cases hc : (0 ≤ s ∧ s < ((2 ^ a.states.toNat : Nat) : Int)) ∧ (0 ≤ t ∧ t ≤ a.states - 1)
    · obtain ⟨⟨s1, s2⟩, t1, t2⟩ := hc
      have d1 : decide (0 ≤ s ∧ s < ((2 ^ a.states.toNat : Nat) : Int)) = true := decide_eq_true ⟨s1, s2⟩
      have d2 : decide (0 ≤ t ∧ t ≤ a.states - 1) = true := decide_eq_true ⟨t1, t2⟩
      have d3 : decide (0 ≤ s ∧ s ≤ 2147483647) = true := decide_eq_true ⟨s1, by omega⟩
      have d4 : decide (s ≥ ((2 ^ a.states.toNat : Nat) : Int)) = false := decide_eq_false (by omega)
      rw [d1, d2, d3, d4, if_neg (by simp), if_neg (by simp)]
      clear d1 d2 d3 d4
      obtain ⟨S, rfl⟩ : ∃ S : Nat, s = (S : Int) := ⟨s.toNat, by omega⟩
      obtain ⟨T, rfl⟩ : ∃ T : Nat, t = (T : Int) := ⟨t.toNat, by omega⟩
      have hS : S < 2 ^ a.states.toNat := by omega
      have hT : T < a.states.toNat := by omega
      obtain ⟨far, f1, f2, hF, hB⟩ := far_same h hT
      obtain ⟨x, r, n1, hN⟩ := near_eq (by omega) hF.len hS
      rw [f1, Option.bind_some, n1, Option.bind_some]
      have himp : impl_Auto_pathWord a (S : Int) (T : Int) = (impl_SetList (S : Int)).bind fun a24 => (loop (fun s : (Int × Int) => impl_Auto_pathWord.b2 a24 far s.1 s.2) (((-1), 0))).bind (fun q => impl_Auto_pathWord.k0 far a (S : Int) q) := by
        unfold impl_Auto_pathWord
        cases e1 : impl_Auto_graph a with
        | none => rw [e1] at f2; cases f2
        | some g1 =>
          rw [e1, Option.bind_some] at f2
          rw [Option.bind_some]
          cases e2 : impl_graph_back g1 with
          | none => rw [e2] at f2; cases f2
          | some g2 =>
            rw [e2, Option.bind_some] at f2
            rw [Option.bind_some, f2, Option.bind_some]
      rw [himp, setList_eq (by omega) hS, Option.bind_some, left_eq (by omega) hF.len S hN, Option.bind_some]
      unfold impl_Auto_pathWord.k0
      dsimp only
      by_cases hx : x < 0
      · rw [if_pos hx, if_pos hx]
        exact ⟨[], false, rfl, rfl, by simp, fun _ => rfl, fun x => by cases x⟩
      · rw [if_neg hx, if_neg hx]
        rcases hN with ⟨e1, _⟩ | ⟨e1, e2, ⟨v, v1, v2, v3⟩, e4⟩
        · omega
        · obtain ⟨d, rfl⟩ : ∃ d : Nat, x = (d : Int) := ⟨x.toNat, by omega⟩
          have hr : r = S &&& atN far a.states.toNat d := by
            rw [e2]
            refine Nat.eq_of_testBit_eq fun i => ?_
            unfold atN
            rw [setOf_bit, Nat.testBit_and, setOf_bit]
            cases S.testBit i <;> cases decide (i < a.states.toNat) <;> cases decide (far.getD i default = (d : Int)) <;> rfl
          have hrl : r < 2 ^ a.states.toNat := by rw [hr]; exact and_lt hS
          have hSl := lt31 (by omega) hS
          have hal := lt31 (by omega) (setOf_lt (fun v => decide (far.getD v default = (d : Int))) a.states.toNat)
          have hbd := hB v v1
          obtain ⟨ws, r1, r2, r3, r4⟩ := walk_loops h hF d r [] hrl ⟨v, v1, by rw [hr, Nat.testBit_and, v2]; unfold atN; rw [setOf_bit, decide_eq_true v1, decide_eq_true v3]; rfl⟩ (fun u hu hb => by
            rw [hr, Nat.testBit_and, Bool.and_eq_true] at hb
            have := hb.2
            unfold atN at this
            rw [setOf_bit, Bool.and_eq_true, decide_eq_true_eq, decide_eq_true_eq] at this
            exact this.2) (by simp; omega)
          rw [List.nil_append] at r1 r2
          rw [r1, Option.bind_some, at_eq (by omega) hF.len, Option.bind_some]
          have hb : bAnd .i64 (S : Int) ((atN far a.states.toNat d : Nat) : Int) = (r : Int) := by
            rw [hr]
            unfold atN at hal ⊢
            exact bAnd_i (by omega) (by omega)
          rw [hb, r2, Option.bind_some]
          refine ⟨ws, true, rfl, rfl, by omega, fun x => (by cases x), fun _ => ⟨trivial, S, T, far, rfl, rfl, hS, hT, hF, by omega, fun u hu hb => by rw [r3]; exact e4 u hu hb, ?_⟩⟩
          obtain ⟨u, u1, u2, u3⟩ := r4 S fun w hw => by
            rw [hr, Nat.testBit_and, Bool.and_eq_true] at hw; exact hw.1
          rw [far_zero hF u1 u3] at u2
          exact u2
    · have c1 : ((!(decide (0 ≤ s ∧ s < ((2 ^ a.states.toNat : Nat) : Int)))) || (!(decide (0 ≤ t ∧ t ≤ a.states - 1)))) = true := by simp only [Bool.or_eq_true, Bool.not_eq_true', decide_eq_false_iff_not, decide_eq_true_eq]; omega
      have c2 : ((((!(decide (0 ≤ s ∧ s ≤ 2147483647))) || (decide (s ≥ ((2 ^ a.states.toNat : Nat) : Int))))) || (!(decide (0 ≤ t ∧ t ≤ a.states - 1)))) = true := by simp only [Bool.or_eq_true, Bool.not_eq_true', decide_eq_false_iff_not, decide_eq_true_eq]; omega
      rw [if_pos c1, if_pos c2]
      exact ⟨[], false, rfl, rfl, by simp, fun _ => rfl, fun x => by cases x⟩
  · rw [Bool.not_eq_true] at hok
    rw [hok]
    simp only [Bool.not_false, Bool.not_true, whenO_f, Option.bind_some, bnd_eq, Bool.true_or, if_true]
    exact ⟨[], false, rfl, rfl, by simp, fun _ => rfl, fun x => by cases x⟩
end Go.Proofs.Ythdclobnmicdaaa
