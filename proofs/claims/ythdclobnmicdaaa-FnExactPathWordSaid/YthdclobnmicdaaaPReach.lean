/- The states that are reached. -/
import Derived.Test.YthdclobnmicdaaaDAutoLive
import Derived.Test.YthdclobnmicdaaaPBuild
import Derived.Test.YthdclobnmicdaaaPFoldR
import Derived.Test.YthdclobnmicdaaaPHasS
namespace Go.Proofs.Ythdclobnmicdaaa
open Go Go.RowKit E
set_option linter.unusedVariables false

def hopE (s : Nat) (e : TEdge) : Nat := if s.testBit e.from_.toNat = true then s ||| 2 ^ e.to_.toNat else s
def passE (es : List TEdge) (s : Nat) : Nat := es.foldl hopE s
theorem hopE_le (s : Nat) (e : TEdge) (i : Nat) (h : s.testBit i = true) : (hopE s e).testBit i = true := by
  unfold hopE; split
  · rw [Nat.testBit_or, h]; rfl
  · exact h
theorem passE_le : ∀ (es : List TEdge) (s i : Nat), s.testBit i = true → (passE es s).testBit i = true
  | [], s, i, h => h
  | e :: es, s, i, h => passE_le es (hopE s e) i (hopE_le s e i h)
theorem passE_or : ∀ (es : List TEdge) (s : Nat), ∃ t, passE es s = s ||| t ∧ ∀ n, s < 2 ^ n → (∀ e ∈ es, e.to_.toNat < n) → t < 2 ^ n
  | [], s => ⟨0, by simp [passE], fun n _ _ => Nat.two_pow_pos n⟩
  | e :: es, s => by
    obtain ⟨t, h1, h2⟩ := passE_or es (hopE s e)
    have hc : passE (e :: es) s = passE es (hopE s e) := rfl
    rw [hc, h1]
    unfold hopE at h2 ⊢
    split at h2
    · rename_i c
      rw [if_pos c]
      refine ⟨2 ^ e.to_.toNat ||| t, by rw [Nat.or_assoc], fun n hs he => ?_⟩
      have hp : 2 ^ e.to_.toNat < 2 ^ n := Nat.pow_lt_pow_right (by omega) (he e List.mem_cons_self)
      exact or_lt hp (h2 n (or_lt hs hp) fun x hx => he x (List.mem_cons_of_mem _ hx))
    · rename_i c
      rw [if_neg c]
      exact ⟨t, rfl, fun n hs he => h2 n hs fun x hx => he x (List.mem_cons_of_mem _ hx)⟩
theorem passE_closed : ∀ (es : List TEdge) (s : Nat), passE es s = s → ∀ e ∈ es, s.testBit e.from_.toNat = true → s.testBit e.to_.toNat = true
  | [], s, _, e, he, _ => by simp at he
  | x :: es, s, h, e, he, hf => by
    have hs : hopE s x = s := by
      refine Nat.eq_of_testBit_eq fun i => ?_
      cases hb : s.testBit i with
      | true => exact hopE_le s x i hb
      | false =>
        cases hb2 : (hopE s x).testBit i with
        | false => rfl
        | true =>
          have := passE_le es (hopE s x) i hb2
          have h' : passE es (hopE s x) = s := h
          rw [h', hb] at this; cases this
    rcases List.mem_cons.mp he with rfl | he
    · unfold hopE at hs
      rw [if_pos hf] at hs
      rw [← hs, Nat.testBit_or, Nat.testBit_two_pow]; simp
    · refine passE_closed es s ?_ e he hf
      have h' : passE es (hopE s x) = s := h
      rw [hs] at h'; exact h'
theorem passE_rch {a : TAuto} (h : AOk a) : ∀ (es : List TEdge) (s : Nat), (∀ e ∈ es, e ∈ a.edges) → ∀ i, (passE es s).testBit i = true → ∃ u, s.testBit u = true ∧ Rch (adjA a) u i
  | [], s, _, i, hi => ⟨i, hi, .refl i⟩
  | e :: es, s, hm, i, hi => by
    obtain ⟨u, hu, hr⟩ := passE_rch h es (hopE s e) (fun x hx => hm x (List.mem_cons_of_mem _ hx)) i hi
    unfold hopE at hu
    split at hu
    · rename_i c
      rw [Nat.testBit_or, Bool.or_eq_true] at hu
      rcases hu with hu | hu
      · exact ⟨u, hu, hr⟩
      · rw [Nat.testBit_two_pow, decide_eq_true_eq] at hu
        subst hu
        exact ⟨_, c, .head ((adjA_mem h _ _).mpr ⟨e, hm e List.mem_cons_self, rfl, rfl⟩) hr⟩
    · exact ⟨u, hu, hr⟩
def iterE (a : TAuto) : Nat → Nat → Nat
  | 0, s => s
  | k + 1, s => iterE a k (passE a.edges s)
theorem iterE_succ (a : TAuto) : ∀ (k s : Nat), iterE a (k + 1) s = passE a.edges (iterE a k s)
  | 0, s => rfl
  | k + 1, s => by
    show iterE a (k + 1) (passE a.edges s) = _
    rw [iterE_succ a k]; rfl
theorem iterE_lt {a : TAuto} (h : AOk a) {s : Nat} (hs : s < 2 ^ a.states.toNat) : ∀ k, iterE a k s < 2 ^ a.states.toNat
  | 0 => hs
  | k + 1 => by
    rw [iterE_succ]
    obtain ⟨t, h1, h2⟩ := passE_or a.edges (iterE a k s)
    rw [h1]
    exact or_lt (iterE_lt h hs k) (h2 _ (iterE_lt h hs k) fun e he => by have := h.edge e he; omega)
theorem iterE_stop {a : TAuto} {s : Nat} {k : Nat} (h : passE a.edges (iterE a k s) = iterE a k s) : ∀ j, iterE a (k + j) s = iterE a k s
  | 0 => rfl
  | j + 1 => by rw [← Nat.add_assoc, iterE_succ, iterE_stop h j, h]
theorem iterE_card {a : TAuto} (h : AOk a) {s : Nat} (hs : s < 2 ^ a.states.toNat) : ∀ k, (∃ j, j < k ∧ passE a.edges (iterE a j s) = iterE a j s) ∨ k ≤ card a.states.toNat (iterE a k s)
  | 0 => .inr (Nat.zero_le _)
  | k + 1 => by
    rcases iterE_card h hs k with ⟨j, hj, g⟩ | g
    · exact .inl ⟨j, by omega, g⟩
    · by_cases c : passE a.edges (iterE a k s) = iterE a k s
      · exact .inl ⟨k, by omega, c⟩
      · right
        rw [iterE_succ]
        obtain ⟨t, h1, h2⟩ := passE_or a.edges (iterE a k s)
        have hlt := iterE_lt h hs k
        have := card_or hlt (h2 _ hlt fun e he => by have := h.edge e he; omega) (by rw [← h1]; exact c)
        rw [h1]; omega
/-- All that is reached. -/
def reachN (a : TAuto) (s : Nat) : Nat := iterE a (a.states.toNat + 1) s
theorem reachN_lt {a : TAuto} (h : AOk a) {s : Nat} (hs : s < 2 ^ a.states.toNat) : reachN a s < 2 ^ a.states.toNat := iterE_lt h hs _
theorem reachN_fix {a : TAuto} (h : AOk a) {s : Nat} (hs : s < 2 ^ a.states.toNat) : passE a.edges (reachN a s) = reachN a s := by
  unfold reachN
  rcases iterE_card h hs (a.states.toNat + 1) with ⟨j, hj, g⟩ | g
  · have e : a.states.toNat + 1 = j + (a.states.toNat + 1 - j) := by omega
    rw [e, iterE_stop g]; exact g
  · have := card_le a.states.toNat (iterE a (a.states.toNat + 1) s)
    omega
theorem iterE_le (a : TAuto) : ∀ (k s i : Nat), s.testBit i = true → (iterE a k s).testBit i = true
  | 0, s, i, h => h
  | k + 1, s, i, h => iterE_le a k _ i (passE_le a.edges s i h)
theorem iterE_rch {a : TAuto} (h : AOk a) : ∀ (k s i : Nat), (iterE a k s).testBit i = true → ∃ u, s.testBit u = true ∧ Rch (adjA a) u i
  | 0, s, i, hi => ⟨i, hi, .refl i⟩
  | k + 1, s, i, hi => by
    obtain ⟨u, hu, hr⟩ := iterE_rch h k _ i hi
    obtain ⟨t, ht, hr2⟩ := passE_rch h a.edges s (fun e he => he) u hu
    exact ⟨t, ht, hr2.trans hr⟩
theorem reachN_iff {a : TAuto} (h : AOk a) {s : Nat} (hs : s < 2 ^ a.states.toNat) (i : Nat) : (reachN a s).testBit i = true ↔ ∃ u, s.testBit u = true ∧ Rch (adjA a) u i := by
  constructor
  · exact iterE_rch h _ s i
  · rintro ⟨u, hu, hr⟩
    have h0 : (reachN a s).testBit u = true := iterE_le a _ s u hu
    clear hu
    induction hr with
    | refl => exact h0
    | @head x y z hxy _ ih =>
      obtain ⟨e, he, rfl, rfl⟩ := (adjA_mem h _ _).mp hxy
      exact ih (passE_closed a.edges _ (reachN_fix h hs) e he h0)
theorem lt31 {n s : Nat} (hn : n ≤ 31) (h : s < 2 ^ n) : s < 2 ^ 31 := Nat.lt_of_lt_of_le h (Nat.pow_le_pow_right (by omega) hn)
/-- The reference's. -/
theorem l4Reach_eq {a : TAuto} (h : AOk a) {s : Nat} (hs : s < 2 ^ a.states.toNat) : spec_l4Reach a (s : Int) = some (reachN a s : Int) := by
  have h1 := h.sts; have h2 := h.num
  have h31 : (2 : Nat) ^ 31 = 2147483648 := rfl
  unfold spec_l4Reach
  have hpass : ∀ s : Nat, s < 2 ^ a.states.toNat → loop (fun q : Int × Int => spec_l4Reach.b1 a q.1 q.2) ((s : Int), 0) = some ((passE a.edges s : Nat) : Int) := fun s hs => by
    refine (fold_loopR (fun s : Nat => (s : Int)) (fun s : Nat => (s : Int)) a.edges hopE (fun _ s => s < 2 ^ a.states.toNat) (fun k st hk hi => ?_) (fun st _ => by unfold spec_l4Reach.b1; rw [if_neg (by simp)]) s hs).1
    have he := h.edge _ (getD_memL hk)
    have hst := lt31 (by omega) hi
    constructor
    · unfold spec_l4Reach.b1
      rw [if_pos (by dsimp only; omega), ix_nat hk, Option.bind_some]
      dsimp only
      rw [l1Has_eq hst (by omega), Option.bind_some]
      unfold hopE
      split
      · rw [Option.bind_some, l1Bit_eq (by omega), Option.bind_some, WS (by omega)]
        have hp := pow31 (n := (a.edges.getD k default).to_.toNat) (by omega)
        rw [bOr_i (by omega) (by omega)]
      · rw [WS (by omega)]
    · unfold hopE
      split
      · exact or_lt hi (Nat.pow_lt_pow_right (by omega) (by omega))
      · exact hi
  have key := loop_up (body := fun q : Int × Int => spec_l4Reach.b0 a q.1 q.2) (a.states.toNat + 1) (fun k => ((iterE a k s : Int), (k : Int))) (reachN a s : Int) (fun k hk => ?_) ?_ 0 (Nat.zero_le _)
  · have key' : loop (fun q : Int × Int => spec_l4Reach.b0 a q.1 q.2) ((s : Int), 0) = _ := key
    rw [key']; rfl
  · dsimp only
    unfold spec_l4Reach.b0
    rw [if_pos (by omega), hpass _ (iterE_lt h hs k), Option.bind_some]
    unfold spec_l4Reach.k1
    rw [WS (by omega), iterE_succ]
  · dsimp only
    unfold spec_l4Reach.b0
    rw [if_neg (by omega)]; rfl
end Go.Proofs.Ythdclobnmicdaaa
