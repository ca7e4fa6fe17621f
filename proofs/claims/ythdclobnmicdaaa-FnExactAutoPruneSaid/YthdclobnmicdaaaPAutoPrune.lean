/- An automaton without the states that are of no use: the program says what the reference says. -/
import Derived.Test.YthdclobnmicdaaaDAutoPrune
import Derived.Test.YthdclobnmicdaaaWf
import Derived.Test.YthdclobnmicdaaaPLive
import Derived.Test.YthdclobnmicdaaaPMarkE2
import Derived.Test.YthdclobnmicdaaaPEqI
import Derived.Test.YthdclobnmicdaaaPHasI
namespace Go.Proofs.Ythdclobnmicdaaa
open Go Go.RowKit E
set_option linter.unusedVariables false

def wasN (S n : Nat) : List Nat := (List.range n).filter fun s => S.testBit s
theorem wasN_succ (S n : Nat) : wasN S (n + 1) = if S.testBit n = true then wasN S n ++ [n] else wasN S n := by
  unfold wasN
  rw [List.range_succ, List.filter_append]
  by_cases h : S.testBit n = true
  · rw [if_pos h, List.filter_cons_of_pos h]; rfl
  · rw [if_neg h, List.filter_cons_of_neg h]; simp
theorem wasN_len (S n : Nat) : (wasN S n).length ≤ n := Nat.le_trans (List.length_filter_le _ _) (by simp)
theorem wasN_mem {S n s : Nat} : s ∈ wasN S n ↔ s < n ∧ S.testBit s = true := by unfold wasN; rw [List.mem_filter, List.mem_range]
theorem wasN_nodup (S n : Nat) : (wasN S n).Nodup := List.Pairwise.filter _ List.nodup_range
/-- The number of members below one. -/
def rankN (S s : Nat) : Nat := (wasN S s).length
theorem wasN_pre (S m d : Nat) : ∃ r, wasN S (m + d) = wasN S m ++ r := by
  unfold wasN
  rw [List.range_add, List.filter_append]; exact ⟨_, rfl⟩
theorem wasN_get {S n s : Nat} (h : s < n) (hs : S.testBit s = true) : rankN S s < (wasN S n).length ∧ (wasN S n).getD (rankN S s) 0 = s := by
  obtain ⟨r, hr⟩ := wasN_pre S (s + 1) (n - (s + 1))
  rw [show s + 1 + (n - (s + 1)) = n by omega, wasN_succ, if_pos hs] at hr
  rw [hr]
  unfold rankN
  constructor
  · simp
  · rw [List.append_assoc, List.getD_eq_getElem?_getD, List.getElem?_append_right (by omega)]; simp
def kst (S st : Nat) : Nat → Nat
  | 0 => 0
  | n + 1 => if (S.testBit n && st.testBit n) = true then kst S st n ||| 2 ^ rankN S n else kst S st n
theorem kst_succ (S st n : Nat) : kst S st (n + 1) = if (S.testBit n && st.testBit n) = true then kst S st n ||| 2 ^ rankN S n else kst S st n := rfl
theorem kst_lt {S st N : Nat} : ∀ n, n ≤ N → kst S st n < 2 ^ N
  | 0, _ => Nat.two_pow_pos N
  | n + 1, h => by
    unfold kst
    have hr := wasN_len S n
    have hp : 2 ^ rankN S n < 2 ^ N := Nat.pow_lt_pow_right (by omega) (by unfold rankN; omega)
    split
    · exact or_lt (kst_lt n (by omega)) hp
    · exact kst_lt n (by omega)
def ist (was : List Nat) (st : Nat) : Nat → Nat
  | 0 => 0
  | k + 1 => if st.testBit (was.getD k 0) = true then ist was st k ||| 2 ^ k else ist was st k
theorem ist_kst (S st n : Nat) : ∀ m, m ≤ n → ist (wasN S n) st (rankN S m) = kst S st m
  | 0, _ => rfl
  | m + 1, h => by
    have ih := ist_kst S st n m (by omega)
    unfold kst
    have e : rankN S (m + 1) = if S.testBit m = true then rankN S m + 1 else rankN S m := by
      unfold rankN; rw [wasN_succ]; split <;> simp
    rw [e]
    by_cases hm : S.testBit m = true
    · rw [if_pos hm]
      have g := (wasN_get (n := n) (by omega) hm).2
      show (if st.testBit ((wasN S n).getD (rankN S m) 0) = true then _ else _) = _
      rw [g, ih, hm, Bool.true_and]
    · rw [if_neg hm, ih]
      rw [if_neg (by simp [hm])]
def keptE (S : Nat) (es : List TEdge) : List TEdge := (es.filter fun e => S.testBit e.from_.toNat && S.testBit e.to_.toNat).map fun e => ⟨rankN S e.from_.toNat, e.letter, rankN S e.to_.toNat, e.good⟩
theorem keptE_snoc (S : Nat) (es : List TEdge) (e : TEdge) : keptE S (es ++ [e]) = if (S.testBit e.from_.toNat && S.testBit e.to_.toNat) = true then keptE S es ++ [⟨rankN S e.from_.toNat, e.letter, rankN S e.to_.toNat, e.good⟩] else keptE S es := by
  unfold keptE
  rw [List.filter_append, List.map_append]
  by_cases h : (S.testBit e.from_.toNat && S.testBit e.to_.toNat) = true
  · have g : List.filter (fun e : TEdge => S.testBit e.from_.toNat && S.testBit e.to_.toNat) [e] = [e] := by simp only [List.filter, h]
    rw [if_pos h, g]; rfl
  · rw [Bool.not_eq_true] at h
    have g : List.filter (fun e : TEdge => S.testBit e.from_.toNat && S.testBit e.to_.toNat) [e] = [] := by simp only [List.filter, h]
    rw [if_neg (by rw [h]; simp), g]; simp
theorem keptE_len (S : Nat) (es : List TEdge) : (keptE S es).length ≤ es.length := by unfold keptE; rw [List.length_map]; exact List.length_filter_le _ _
/-- What is kept. -/
def keptA (a : TAuto) (S : Nat) : TAuto := ⟨a.letters, ((wasN S a.states.toNat).length : Nat), (kst S a.start.toNat a.states.toNat : Nat), keptE S a.edges⟩
def atL (S n : Nat) : List Int := (List.range n).map fun s => (rankN S s : Int)
theorem atL_get {S n s : Nat} (h : s < n) : ix (atL S n) (s : Int) = some (rankN S s : Int) := by
  unfold atL
  rw [ix_nat (by simpa using h)]
  simp [List.getD_eq_getElem?_getD, h]
theorem specKeep_eq {a : TAuto} (h : AOk a) {S : Nat} (hS : S < 2 ^ a.states.toNat) : spec_l4Keep a (S : Int) = some (keptA a S, ints (wasN S a.states.toNat)) := by
  have h1 := h.sts; have h2 := h.num; have h3 := h.start
  have h31 : (2 : Nat) ^ 31 = 2147483648 := rfl
  have hSl := lt31 (by omega) hS
  have e0 : a.start = ((a.start.toNat : Nat) : Int) := by omega
  have hst : a.start.toNat < 2 ^ a.states.toNat := by omega
  have hstl := lt31 (by omega) hst
  unfold spec_l4Keep
  have L2 := loop_up (body := fun s : List Int × List Int × Int => spec_l4Keep.b2 a (S : Int) s.1 s.2.1 s.2.2) a.states.toNat (fun k => (ints (wasN S k), atL S k, (k : Int))) (ints (wasN S a.states.toNat), atL S a.states.toNat) (fun k hk => ?_) ?_ 0 (Nat.zero_le _)
  · have L2' : loop (fun s : List Int × List Int × Int => spec_l4Keep.b2 a (S : Int) s.1 s.2.1 s.2.2) ([], [], 0) = _ := L2
    rw [L2', Option.bind_some]
    unfold spec_l4Keep.k0
    have hwl := wasN_len S a.states.toNat
    have L1 := loop_up (body := fun s : Int × Int × Int × List TEdge × Int => spec_l4Keep.b1 a (S : Int) (atL S a.states.toNat) s.1 s.2.1 s.2.2.1 s.2.2.2.1 s.2.2.2.2) a.states.toNat (fun k => (a.letters, ((wasN S a.states.toNat).length : Int), (kst S a.start.toNat k : Int), ([] : List TEdge), (k : Int))) (a.letters, ((wasN S a.states.toNat).length : Int), (kst S a.start.toNat a.states.toNat : Int), ([] : List TEdge)) (fun k hk => ?_) ?_ 0 (Nat.zero_le _)
    · have L1' : loop (fun s : Int × Int × Int × List TEdge × Int => spec_l4Keep.b1 a (S : Int) (atL S a.states.toNat) s.1 s.2.1 s.2.2.1 s.2.2.2.1 s.2.2.2.2) (a.letters, ((ints (wasN S a.states.toNat)).length : Int), 0, [], 0) = some (a.letters, ((wasN S a.states.toNat).length : Int), (kst S a.start.toNat a.states.toNat : Int), ([] : List TEdge)) := by
        have : ((ints (wasN S a.states.toNat)).length : Int) = ((wasN S a.states.toNat).length : Int) := by simp [ints]
        rw [this]; exact L1
      dsimp only
      rw [L1', Option.bind_some]
      unfold spec_l4Keep.k1
      have L0 := loop_list (body := fun s : Int × Int × Int × List TEdge × Int => spec_l4Keep.b0 a (S : Int) (atL S a.states.toNat) s.1 s.2.1 s.2.2.1 s.2.2.2.1 s.2.2.2.2) a.edges (fun pre => (a.letters, ((wasN S a.states.toNat).length : Int), (kst S a.start.toNat a.states.toNat : Int), keptE S pre, (pre.length : Int))) (a.letters, ((wasN S a.states.toNat).length : Int), (kst S a.start.toNat a.states.toNat : Int), keptE S a.edges) (fun pre e post he => ?_) ?_
      · have L0' : loop (fun s : Int × Int × Int × List TEdge × Int => spec_l4Keep.b0 a (S : Int) (atL S a.states.toNat) s.1 s.2.1 s.2.2.1 s.2.2.2.1 s.2.2.2.2) (a.letters, ((wasN S a.states.toNat).length : Int), (kst S a.start.toNat a.states.toNat : Int), [], 0) = _ := L0
        dsimp only
        rw [L0', Option.bind_some]; rfl
      · dsimp only
        unfold spec_l4Keep.b0
        have hm : e ∈ a.edges := by rw [he]; simp
        have hE := h.edge e hm
        have hlen : pre.length + (post.length + 1) = a.edges.length := by rw [he]; simp
        have hkl := keptE_len S pre
        have w4 : W ((pre.length : Int) + 1) = (((pre ++ [e]).length : Nat) : Int) := by rw [W, W_eq (by omega) (by omega)]; simp
        rw [if_pos (by omega), show ix a.edges (pre.length : Int) = some e by rw [he]; exact ix_mid pre e post, Option.bind_some, l1Has_eq hSl (by omega), Option.bind_some, keptE_snoc]
        have g1 := atL_get (S := S) (n := a.states.toNat) (s := e.from_.toNat) (by omega)
        have g2 := atL_get (S := S) (n := a.states.toNat) (s := e.to_.toNat) (by omega)
        rw [Int.toNat_of_nonneg hE.1.1] at g1
        rw [Int.toNat_of_nonneg hE.2.1.1] at g2
        cases c1 : S.testBit e.from_.toNat with
        | false => rw [whenO_f, Option.bind_some, Bool.false_and, if_neg (by simp), Bool.false_and, if_neg (by simp), w4]
        | true =>
          rw [whenO_t, l1Has_eq hSl (by omega), Option.bind_some, Bool.true_and]
          split
          · rw [g1, Option.bind_some, g2, Option.bind_some, app_small (by simp; omega) (by decide), Option.bind_some, w4]
          · rw [w4]
      · dsimp only
        unfold spec_l4Keep.b0
        rw [if_neg (by omega)]
    · dsimp only
      unfold spec_l4Keep.b1
      have hr := wasN_len S k
      have hp := pow31 (n := rankN S k) (by unfold rankN; omega)
      have hk1 := lt31 (n := a.states.toNat) (by omega) (kst_lt (S := S) (st := a.start.toNat) k (by omega))
      rw [if_pos (by omega), l1Has_eq hSl (by omega), Option.bind_some, Int.toNat_natCast, e0, Int.toNat_natCast, kst_succ]
      cases c1 : S.testBit k with
      | false => rw [whenO_f, Option.bind_some, Bool.false_and, if_neg (by simp), Bool.false_and, if_neg (by simp), WS (by omega)]
      | true =>
        rw [whenO_t, l1Has_eq hstl (by omega), Option.bind_some, Bool.true_and, Int.toNat_natCast, Bool.true_and]
        split
        · rw [atL_get hk, Option.bind_some, l1Bit_eq (by unfold rankN; omega), Option.bind_some, Int.toNat_natCast, bOr_i (by omega) (by omega), WS (by omega)]
        · rw [WS (by omega)]
    · dsimp only
      unfold spec_l4Keep.b1
      rw [if_neg (by omega)]
  · dsimp only
    unfold spec_l4Keep.b2
    have hr := wasN_len S k
    have e1 : atL S (k + 1) = atL S k ++ [((ints (wasN S k)).length : Int)] := by
      unfold atL; rw [List.range_succ, List.map_append]; simp [rankN, ints]
    rw [if_pos (by omega), app_small (by simp [atL]; omega) (by decide), Option.bind_some, l1Has_eq hSl (by omega), Option.bind_some, Int.toNat_natCast, wasN_succ, e1]
    split
    · rw [app_small (by simp [ints]; omega) (by decide), Option.bind_some, WS (by omega), ints_snoc]
    · rw [WS (by omega)]
  · dsimp only
    unfold spec_l4Keep.b2
    rw [if_neg (by omega)]
theorem setList_eq {S n : Nat} (hn : n ≤ 31) (hS : S < 2 ^ n) : impl_SetList (S : Int) = some (ints (wasN S n)) := by
  have h31 : (2 : Nat) ^ 31 = 2147483648 := rfl
  have hSl := lt31 hn hS
  have hw : wasN S 31 = wasN S n := by
    have : ∀ d, n + d ≤ 31 → wasN S (n + d) = wasN S n := by
      intro d
      induction d with
      | zero => intro _; rfl
      | succ d ih =>
        intro hd
        rw [← Nat.add_assoc, wasN_succ, if_neg, ih (by omega)]
        rw [Nat.testBit_lt_two_pow (Nat.lt_of_lt_of_le hS (Nat.pow_le_pow_right (by omega) (by omega)))]
        simp
    have := this (31 - n) (by omega)
    rwa [show n + (31 - n) = 31 by omega] at this
  unfold impl_SetList
  rw [if_neg (by unfold impl_SetOk; rw [inRg]; simp; omega)]
  have L := loop_up (body := fun s : List Int × Int => impl_SetList.b0 (S : Int) s.1 s.2) 31 (fun k => (ints (wasN S k), (k : Int))) (ints (wasN S 31)) (fun k hk => ?_) ?_ 0 (Nat.zero_le _)
  · have L' : loop (fun s : List Int × Int => impl_SetList.b0 (S : Int) s.1 s.2) ([], 0) = _ := L
    rw [L', Option.bind_some, hw]; rfl
  · dsimp only
    unfold impl_SetList.b0
    have hr := wasN_len S k
    rw [if_pos (by omega), has_eq hSl (by omega), Int.toNat_natCast, wasN_succ]
    split
    · rw [app_small (by simp [ints]; omega) (by decide), Option.bind_some, WS (by omega), ints_snoc]
    · rw [WS (by omega)]
  · dsimp only
    unfold impl_SetList.b0
    rw [if_neg (by omega)]
theorem and_all {S n : Nat} (hS : S < 2 ^ n) : S &&& (2 ^ n - 1) = S := by rw [Nat.and_two_pow_sub_one_eq_mod, Nat.mod_eq_of_lt hS]
theorem implKept_eq {a : TAuto} (h : AOk a) {S : Nat} (hS : S < 2 ^ a.states.toNat) : impl_Auto_kept a (S : Int) = some (keptA a S, ints (wasN S a.states.toNat)) := by
  have h1 := h.sts; have h2 := h.num; have h3 := h.start
  have h31 : (2 : Nat) ^ 31 = 2147483648 := rfl
  have hSl := lt31 (by omega) hS
  have e0 : a.start = ((a.start.toNat : Nat) : Int) := by omega
  have hst : a.start.toNat < 2 ^ a.states.toNat := by omega
  have hstl := lt31 (by omega) hst
  have hp := pow31 (n := a.states.toNat) (by omega)
  have hwl := wasN_len S a.states.toNat
  unfold impl_Auto_kept
  have w0 : W ((impl_only a.states) - 1) = ((2 ^ a.states.toNat - 1 : Nat) : Int) := by
    rw [show a.states = ((a.states.toNat : Nat) : Int) by omega, Int.toNat_natCast]
    have := only_eq (n := a.states.toNat) (by omega)
    rw [this, W, W_eq (by omega) (by omega)]; omega
  rw [w0, bAnd_i (by omega) (by omega), and_all hS, setList_eq (by omega) hS, Option.bind_some, mk_ok (by omega) (by omega), Option.bind_some]
  have hil : (ints (wasN S a.states.toNat)).length = (wasN S a.states.toNat).length := by simp [ints]
  have L1 := loop_inv (body := fun s : Int × Int × Int × List TEdge × List Int × Int => impl_Auto_kept.b1 (ints (wasN S a.states.toNat)) a s.1 s.2.1 s.2.2.1 s.2.2.2.1 s.2.2.2.2.1 s.2.2.2.2.2)
    (fun s => ∃ (k : Nat) (y : List Int), s = (a.letters, ((wasN S a.states.toNat).length : Int), (ist (wasN S a.states.toNat) a.start.toNat k : Int), ([] : List TEdge), y, (k : Int)) ∧ k ≤ (wasN S a.states.toNat).length ∧ y.length = a.states.toNat ∧ ∀ j, j < k → y.getD ((wasN S a.states.toNat).getD j 0) default = (j : Int))
    (fun s => (wasN S a.states.toNat).length - s.2.2.2.2.2.toNat)
    (fun r => ∃ y : List Int, r = (a.letters, ((wasN S a.states.toNat).length : Int), (ist (wasN S a.states.toNat) a.start.toNat (wasN S a.states.toNat).length : Int), ([] : List TEdge), y) ∧ y.length = a.states.toNat ∧ ∀ j, j < (wasN S a.states.toNat).length → y.getD ((wasN S a.states.toNat).getD j 0) default = (j : Int))
    (fun s hs => ?_) (s := (a.letters, ((ints (wasN S a.states.toNat)).length : Int), 0, [], List.replicate a.states.toNat (0 : Int), 0)) ⟨0, List.replicate a.states.toNat (0 : Int), by rw [hil]; rfl, Nat.zero_le _, by simp, fun j hj => by omega⟩
  · obtain ⟨r, hr, y, rfl, hy1, hy2⟩ := L1
    rw [hr, Option.bind_some]
    unfold impl_Auto_kept.k0
    have hyg : ∀ s : Int, 0 ≤ s → s < a.states → S.testBit s.toNat = true → ix y s = some (rankN S s.toNat : Int) := by
      intro s g1 g2 g3
      obtain ⟨k1, k2⟩ := wasN_get (n := a.states.toNat) (s := s.toNat) (by omega) g3
      have := hy2 _ k1
      rw [k2] at this
      rw [ix_ok g1 (by omega), this]
    have L0 := loop_list (body := fun s : Int × Int × Int × List TEdge × Int => impl_Auto_kept.b0 a (S : Int) y s.1 s.2.1 s.2.2.1 s.2.2.2.1 s.2.2.2.2) a.edges (fun pre => (a.letters, ((wasN S a.states.toNat).length : Int), (ist (wasN S a.states.toNat) a.start.toNat (wasN S a.states.toNat).length : Int), keptE S pre, (pre.length : Int))) (a.letters, ((wasN S a.states.toNat).length : Int), (ist (wasN S a.states.toNat) a.start.toNat (wasN S a.states.toNat).length : Int), keptE S a.edges) (fun pre e post he => ?_) ?_
    · have L0' : loop (fun s : Int × Int × Int × List TEdge × Int => impl_Auto_kept.b0 a (S : Int) y s.1 s.2.1 s.2.2.1 s.2.2.2.1 s.2.2.2.2) (a.letters, ((wasN S a.states.toNat).length : Int), (ist (wasN S a.states.toNat) a.start.toNat (wasN S a.states.toNat).length : Int), [], 0) = _ := L0
      rw [L0', Option.bind_some]
      unfold impl_Auto_kept.k1 keptA
      have := ist_kst S a.start.toNat a.states.toNat a.states.toNat (Nat.le_refl _)
      unfold rankN at this
      rw [this]
    · dsimp only
      unfold impl_Auto_kept.b0
      have hm : e ∈ a.edges := by rw [he]; simp
      have hE := h.edge e hm
      have hlen : pre.length + (post.length + 1) = a.edges.length := by rw [he]; simp
      have hkl := keptE_len S pre
      have w4 : W ((pre.length : Int) + 1) = (((pre ++ [e]).length : Nat) : Int) := by rw [W, W_eq (by omega) (by omega)]; simp
      rw [if_pos (by omega), show ix a.edges (pre.length : Int) = some e by rw [he]; exact ix_mid pre e post, Option.bind_some, bnd_eq, has_eq hSl (by omega), has_eq hSl (by omega), keptE_snoc]
      by_cases c : (S.testBit e.from_.toNat && S.testBit e.to_.toNat) = true
      · have c' := c
        rw [Bool.and_eq_true] at c'
        rw [if_pos c, if_pos c, hyg _ hE.1.1 hE.1.2 c'.1, Option.bind_some, hyg _ hE.2.1.1 hE.2.1.2 c'.2, Option.bind_some, app_small (by simp; omega) (by decide), Option.bind_some, w4]
      · rw [if_neg c, if_neg c, w4]
    · dsimp only
      unfold impl_Auto_kept.b0
      rw [if_neg (by omega)]
  · obtain ⟨k, y, rfl, hk, hy1, hy2⟩ := hs
    dsimp only
    unfold impl_Auto_kept.b1
    by_cases c : k < (wasN S a.states.toNat).length
    · right
      have hix : ix (ints (wasN S a.states.toNat)) (k : Int) = some (((wasN S a.states.toNat).getD k 0 : Nat) : Int) := ints_get c
      have hmem : (wasN S a.states.toNat).getD k 0 ∈ wasN S a.states.toNat := by
        rw [List.getD_eq_getElem?_getD, List.getElem?_eq_getElem c]; exact List.getElem_mem c
      have hw := wasN_mem.mp hmem
      have hok : ck (((wasN S a.states.toNat).getD k 0 : Nat) : Int) y.length = some ((wasN S a.states.toNat).getD k 0) := ck_nat (by omega)
      have hnew : ∀ j, j < k + 1 → (y.set ((wasN S a.states.toNat).getD k 0) (k : Int)).getD ((wasN S a.states.toNat).getD j 0) default = (j : Int) := by
        intro j hj
        by_cases e : j = k
        · subst e
          rw [List.getD_eq_getElem?_getD, List.getElem?_set_self (by omega)]; rfl
        · have hne : (wasN S a.states.toNat).getD k 0 ≠ (wasN S a.states.toNat).getD j 0 := by
            intro g
            have hjl : j < (wasN S a.states.toNat).length := by omega
            rw [List.getD_eq_getElem?_getD, List.getD_eq_getElem?_getD, List.getElem?_eq_getElem c, List.getElem?_eq_getElem hjl] at g
            exact e ((List.getElem_inj (wasN_nodup S _)).mp g.symm)
          rw [List.getD_eq_getElem?_getD, List.getElem?_set_ne hne, ← List.getD_eq_getElem?_getD]
          exact hy2 j (by omega)
      rw [if_pos (by rw [hil]; omega), hix, Option.bind_some, hok, Option.bind_some, e0, has_eq hstl (by omega), Int.toNat_natCast, Int.toNat_natCast]
      have hil2 : ist (wasN S a.states.toNat) a.start.toNat k < 2 ^ 31 := by
        have : ∀ q, q ≤ a.states.toNat → ist (wasN S a.states.toNat) a.start.toNat q < 2 ^ a.states.toNat := by
          intro q
          induction q with
          | zero => intro _; exact Nat.two_pow_pos _
          | succ q ih =>
            intro hq
            unfold ist
            split
            · exact or_lt (ih (by omega)) (Nat.pow_lt_pow_right (by omega) (by omega))
            · exact ih (by omega)
        exact lt31 (by omega) (this k (by omega))
      have hpk := pow31 (n := k) (by omega)
      by_cases c2 : a.start.toNat.testBit ((wasN S a.states.toNat).getD k 0) = true
      · rw [if_pos c2]
        have ho : impl_only ((k : Nat) : Int) = ((2 ^ k : Nat) : Int) := only_eq (n := k) (by omega)
        rw [ho, bOr_i (by omega) (by omega), WS (by omega)]
        refine ⟨_, rfl, ⟨k + 1, _, ?_, by omega, by simpa using hy1, hnew⟩, by dsimp only; omega⟩
        have : ist (wasN S a.states.toNat) a.start.toNat (k + 1) = ist (wasN S a.states.toNat) a.start.toNat k ||| 2 ^ k := by
          show (if _ then _ else _) = _
          rw [if_pos c2]
        rw [this]
      · rw [if_neg c2, WS (by omega)]
        refine ⟨_, rfl, ⟨k + 1, _, ?_, by omega, by simpa using hy1, hnew⟩, by dsimp only; omega⟩
        have : ist (wasN S a.states.toNat) a.start.toNat (k + 1) = ist (wasN S a.states.toNat) a.start.toNat k := by
          show (if _ then _ else _) = _
          rw [if_neg c2]
        rw [this]
    · left
      obtain rfl : k = (wasN S a.states.toNat).length := by omega
      rw [if_neg (by rw [hil]; omega)]
      exact ⟨_, rfl, y, rfl, hy1, hy2⟩
theorem reach_eq {a : TAuto} (h : AOk a) {s : Nat} (hs : s < 2 ^ a.states.toNat) : impl_Auto_reach a (s : Int) = some (reachN a s : Int) := by
  have h1 := h.sts; have h2 := h.num
  have h31 : (2 : Nat) ^ 31 = 2147483648 := rfl
  unfold impl_Auto_reach
  have hpass : ∀ s : Nat, s < 2 ^ a.states.toNat → loop (fun q : Int × Int => impl_Auto_reach.b1 a q.1 q.2) ((s : Int), 0) = some ((passE a.edges s : Nat) : Int) := fun s hs => by
    refine (fold_loopR (fun s : Nat => (s : Int)) (fun s : Nat => (s : Int)) a.edges hopE (fun _ s => s < 2 ^ a.states.toNat) (fun k st hk hi => ?_) (fun st _ => by unfold impl_Auto_reach.b1; rw [if_neg (by simp)]) s hs).1
    have he := h.edge _ (getD_memL hk)
    have hst := lt31 (by omega) hi
    constructor
    · unfold impl_Auto_reach.b1
      rw [if_pos (by dsimp only; omega), ix_nat hk, Option.bind_some]
      dsimp only
      rw [has_eq hst (by omega)]
      unfold hopE
      split
      · have hp := pow31 (n := (a.edges.getD k default).to_.toNat) (by omega)
        rw [show (a.edges.getD k default).to_ = (((a.edges.getD k default).to_.toNat : Nat) : Int) by omega, Int.toNat_natCast, only_eq (by omega), bOr_i (by omega) (by omega), WS (by omega)]
      · rw [WS (by omega)]
    · unfold hopE
      split
      · exact or_lt hi (Nat.pow_lt_pow_right (by omega) (by omega))
      · exact hi
  have key : ∃ r, loop (fun s : Int => impl_Auto_reach.b0 a s) (s : Int) = some r ∧ r = (reachN a s : Int) := by
    refine loop_inv (body := fun s : Int => impl_Auto_reach.b0 a s) (fun x => ∃ k : Nat, x = (iterE a k s : Int) ∧ ∀ j, j < k → passE a.edges (iterE a j s) ≠ iterE a j s) (fun x => a.states.toNat - card a.states.toNat x.toNat) (fun r => r = (reachN a s : Int)) (fun x hx => ?_) ⟨0, rfl, fun j hj => by omega⟩
    obtain ⟨k, rfl, hk⟩ := hx
    have hlt := iterE_lt h hs k
    unfold impl_Auto_reach.b0
    rw [hpass _ hlt, Option.bind_some]
    unfold impl_Auto_reach.k0
    by_cases c : passE a.edges (iterE a k s) = iterE a k s
    · left
      rw [if_pos (by rw [c])]
      refine ⟨_, rfl, ?_⟩
      congr 1
      unfold reachN
      rcases iterE_card h hs k with ⟨j, hj, g⟩ | g
      · exact absurd g (hk j hj)
      · have := card_le a.states.toNat (iterE a k s)
        have e : a.states.toNat + 1 = k + (a.states.toNat + 1 - k) := by omega
        rw [e, iterE_stop c]
    · right
      rw [if_neg (by omega)]
      refine ⟨_, rfl, ⟨k + 1, by rw [iterE_succ], fun j hj => ?_⟩, ?_⟩
      · by_cases e : j = k
        · subst e; exact c
        · exact hk j (by omega)
      · obtain ⟨t, g1, g2⟩ := passE_or a.edges (iterE a k s)
        have := card_or hlt (g2 _ hlt fun e he => by have := h.edge e he; omega) (by rw [← g1]; exact c)
        rw [← g1] at this
        have h2 := card_le a.states.toNat (passE a.edges (iterE a k s))
        rw [Int.toNat_natCast, Int.toNat_natCast]; omega
  obtain ⟨r, e, rfl⟩ := key
  rw [e]; rfl
def pruneN (a : TAuto) : Nat := reachN a a.start.toNat &&& liveN a
noncomputable def pruneP (a : TAuto) : TAuto × List Int := if autoOk a = true then (keptA a (pruneN a), ints (wasN (pruneN a) a.states.toNat)) else (⟨0, 0, 0, []⟩, [])
theorem prune_parts {a : TAuto} (h : AOk a) : reachN a a.start.toNat < 2 ^ 31 ∧ liveN a < 2 ^ 31 ∧ pruneN a < 2 ^ a.states.toNat ∧ a.start = ((a.start.toNat : Nat) : Int) ∧ a.start.toNat < 2 ^ a.states.toNat := by
  have h1 := h.sts; have h3 := h.start
  have hst : a.start.toNat < 2 ^ a.states.toNat := by omega
  have r1 := reachN_lt h hst
  exact ⟨lt31 (by omega) r1, lt31 (by omega) (liveN_lt h), and_lt r1, by omega, hst⟩
theorem specPrune (a : TAuto) : spec_AutoPrune a = some (pruneP a) := by
  unfold pruneP
  by_cases hok : autoOk a = true
  · have h := autoOk_A hok
    obtain ⟨p1, p2, p3, p4, p5⟩ := prune_parts h
    have h31 : (2 : Nat) ^ 31 = 2147483648 := rfl
    unfold spec_AutoPrune
    have hr := l4Reach_eq h p5
    rw [← p4] at hr
    rw [if_pos hok, specAutoOk_eq, hok, Option.bind_some, if_neg (by simp), hr, Option.bind_some, specLive_eq hok, Option.bind_some, bAnd_i (by omega) (by omega)]
    have hk := specKeep_eq h p3
    unfold pruneN at hk ⊢
    rw [hk, Option.bind_some]
  · rw [if_neg hok]; unfold spec_AutoPrune; rw [specAutoOk_eq, Option.bind_some, if_pos (by simpa using hok)]
theorem implPrune (a : TAuto) : impl_AutoPrune a = some (pruneP a) := by
  unfold pruneP
  by_cases hok : autoOk a = true
  · have h := autoOk_A hok
    obtain ⟨p1, p2, p3, p4, p5⟩ := prune_parts h
    have h31 : (2 : Nat) ^ 31 = 2147483648 := rfl
    unfold impl_AutoPrune
    have hr := reach_eq h p5
    rw [← p4] at hr
    rw [if_pos hok, implAutoOk_eq, hok, Option.bind_some, if_neg (by simp), hr, Option.bind_some, implLive_eq hok, Option.bind_some, bAnd_i (by omega) (by omega)]
    have hk := implKept_eq h p3
    unfold pruneN at hk ⊢
    rw [hk, Option.bind_some]
  · rw [if_neg hok]; unfold impl_AutoPrune; rw [implAutoOk_eq, Option.bind_some, if_pos (by simpa using hok)]
theorem pruneP_len (a : TAuto) : (pruneP a).1.edges.length ≤ 2000 ∧ (pruneP a).2.length ≤ 31 := by
  unfold pruneP
  split
  · rename_i g
    have h := autoOk_A g
    have h1 := h.sts; have h2 := h.num
    have h3 := keptE_len (pruneN a) a.edges
    have h4 := wasN_len (pruneN a) a.states.toNat
    exact ⟨by show (keptE _ _).length ≤ _; omega, by simp [ints]; omega⟩
  · simp
theorem pureAutoPrune (a : TAuto) (w : TAuto.wf a) : laws_FnExactAutoPrune a = some true := by
  obtain ⟨_, _, _, wl, _⟩ := w
  unfold laws_FnExactAutoPrune
  by_cases hs : laws_szAuto a 1048576 < 0
  · rw [if_pos hs]
  · rw [if_neg hs]
    have hl : a.edges.length ≤ 1048576 := Classical.byContradiction fun g => hs ((szAuto_eq a wl).mpr g)
    obtain ⟨hr1, hr2⟩ := pruneP_len a
    have he := eqIntS_self (pruneP a).2 (by omega)
    have hea := eqAuto_eq (pruneP a).1 (by omega)
    have hma := markAuto_eq (pruneP a).1 (by omega)
    have hha := heldAuto_eq (pruneP a).1 (by omega)
    have hm := markI_from (pruneP a).2 (1 + 4 * (pruneP a).1.edges.length) (by omega) (by omega)
    have hh := heldI_from (pruneP a).2 (1 + 4 * (pruneP a).1.edges.length) (by omega) (by omega)
    simp only [toAuto_eq a hl, Option.bind_some, eqAuto_eq a hl, specPrune, implPrune, he, hea, markAuto_eq a (by omega), hma]
    simp only [bnd_eq, Bool.not_true, Bool.not_false, whenO_t, Bool.or_self, Bool.false_eq_true, if_false, Option.bind_some, hm]
    rw [show (decide (((1 + 4 * a.edges.length : Nat) : Int) < 0)) = false by simp; omega]
    simp only [bnd_eq, Bool.not_true, Bool.not_false, whenO_t, Bool.or_self, Bool.false_eq_true, if_false, Option.bind_some, hha]
    have hz : ¬ ((1 + 4 * (pruneP a).1.edges.length : Nat) : Int) < 0 := by omega
    have hz2 : ¬ ((1 + 4 * (pruneP a).1.edges.length + (pruneP a).2.length : Nat) : Int) < 0 := by omega
    simp only [hz, if_false, hh, Option.bind_some, hz2, ne_eq, not_true_eq_false]
end Go.Proofs.Ythdclobnmicdaaa
