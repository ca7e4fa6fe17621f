/- Plain texts of FnExactLtlAuto, put together. -/
import Derived.Test.YthdoebgikbfndaaGreatDLtlAuto
import Derived.Test.YthdoebgikbfndaaGreatWf
import Derived.Test.YthdoebgikbfndaaGreatQ0
import Derived.Test.YthdoebgikbfndaaGreatQ1
import Derived.Test.YthdoebgikbfndaaGreatTy

/- Trees of nodes: what both ways of telling them find. -/
section
namespace Go.Proofs.YthdoebgikbfndaaGreat
open Go Go.RowKit E
set_option linter.unusedVariables false

/-- The sizes of the trees of all nodes, one node more. -/
def sizeStep (p : TNode → Int) (ss : List Int) (n : TNode) : Option (List Int) :=
  if p n = 0 then some (ss ++ [1])
  else if p n = 1 then (if 1 ≤ ss.length ∧ n.a = (ss.length : Int) - 1 ∧ n.b = 0 then some (ss ++ [1 + ss.getD (ss.length - 1) 0]) else none)
  else if p n = 2 then (if 1 ≤ ss.length ∧ n.b = (ss.length : Int) - 1 ∧ 0 ≤ (ss.length : Int) - 1 - ss.getD (ss.length - 1) 0 ∧ n.a = (ss.length : Int) - 1 - ss.getD (ss.length - 1) 0 then some (ss ++ [1 + ss.getD (ss.length - 1) 0 + ss.getD n.a.toNat 0]) else none)
  else none
def sizesFrom (p : TNode → Int) : List Int → List TNode → Option (List Int)
  | ss, [] => some ss
  | ss, n :: r => match sizeStep p ss n with
    | some ss' => sizesFrom p ss' r
    | none => none
def treeOk (p : TNode → Int) (e : List TNode) : Bool :=
  decide (1 ≤ e.length ∧ e.length ≤ 31) && match sizesFrom p [] e with
    | some ss => decide (ss.getD (e.length - 1) 0 = (e.length : Int))
    | none => false
/-- What sizes are right: none is below one, and none reaches further than to the first node. -/
def Sized (ss : List Int) : Prop := ∀ i, i < ss.length → 1 ≤ ss.getD i 0 ∧ ss.getD i 0 ≤ (i : Int) + 1
theorem Sized.nil : Sized [] := fun i h => by simp at h
theorem getD_app {ss : List Int} {x : Int} {i : Nat} : (ss ++ [x]).getD i 0 = if i < ss.length then ss.getD i 0 else if i = ss.length then x else 0 := by
  by_cases h : i < ss.length
  · rw [if_pos h]; simp [List.getD, List.getElem?_append_left h]
  · rw [if_neg h]
    by_cases k : i = ss.length
    · subst k; simp
    · rw [if_neg k]; simp [List.getD, List.getElem?_eq_none (by simp; omega : (ss ++ [x]).length ≤ i)]
theorem Sized.snoc {ss : List Int} (h : Sized ss) {x : Int} (h1 : 1 ≤ x) (h2 : x ≤ (ss.length : Int) + 1) : Sized (ss ++ [x]) := by
  intro i hi
  rw [getD_app]
  by_cases k : i < ss.length
  · rw [if_pos k]; exact h i k
  · have : i = ss.length := by simp at hi; omega
    rw [if_neg k, if_pos this]; omega
theorem sizeStep_sized {p : TNode → Int} {ss ss' : List Int} {n : TNode} (h : Sized ss) (hs : sizeStep p ss n = some ss') : Sized ss' ∧ ss'.length = ss.length + 1 := by
  unfold sizeStep at hs
  split at hs
  · cases hs; exact ⟨h.snoc (by omega) (by omega), by simp⟩
  · split at hs
    · split at hs
      · rename_i k; cases hs
        have := h (ss.length - 1) (by omega)
        exact ⟨h.snoc (by omega) (by omega), by simp⟩
      · cases hs
    · split at hs
      · split at hs
        · rename_i k; cases hs
          have h1 := h (ss.length - 1) (by omega)
          have h2 := h n.a.toNat (by omega)
          exact ⟨h.snoc (by omega) (by omega), by simp⟩
        · cases hs
      · cases hs

theorem getL {ss : List Int} {i : Int} (h : 0 ≤ i) (k : i < ss.length) : ix ss i = some (ss.getD i.toNat 0) := ix_ok h k

/-- The reference's sizes. -/
theorem l2Sizes_from (p : TNode → Int) (e : List TNode) (ps : List Int) (hps : ps.length = e.length) (he : e.length ≤ 31) (hp : ∀ i, i < e.length → ps.getD i 0 = p (e.getD i default) ∨ (ps.getD i 0 = 0 ∧ p (e.getD i default) ≠ 0 ∧ p (e.getD i default) ≠ 1 ∧ p (e.getD i default) ≠ 2 ∧ (e.getD i default).b ≠ 0))
    (hq : ∀ i, i < e.length → ps.getD i 0 = 0 ∨ ps.getD i 0 = 1 ∨ ps.getD i 0 = 2) (hb : ∀ n, p n = 0 → n.b = 0) :
    ∀ (r pre : List TNode) (ss : List Int), e = pre ++ r → ss.length = pre.length → Sized ss →
      loop (fun s : List Int × Int => spec_l2Sizes.b0 e ps s.1 s.2) (ss, (pre.length : Int)) = some (match sizesFrom p ss r with | some s => .inl s | none => .inr []) := by
  intro r
  induction r with
  | nil =>
    intro pre ss h hl hS
    refine loop_end ?_
    unfold spec_l2Sizes.b0
    rw [if_neg (by rw [h]; simp)]; rfl
  | cons n r ih =>
    intro pre ss h hl hS
    have hk : pre.length < e.length := by rw [h]; simp
    have hn : e.getD pre.length default = n := by rw [h]; simp
    have hix : ix e (pre.length : Int) = some n := by rw [ix_nat hk, hn]
    have hp0 := hp _ hk
    have hq0 := hq _ hk
    have hixp : ix ps (pre.length : Int) = some (ps.getD pre.length 0) := ix_nat (by omega)
    rw [hn] at hp0
    have go : ∀ x, sizeStep p ss n = some (ss ++ [x]) → spec_l2Sizes.b0 e ps ss (pre.length : Int) = some (.inl (ss ++ [x], ((pre.length + 1 : Nat) : Int))) →
        loop (fun s : List Int × Int => spec_l2Sizes.b0 e ps s.1 s.2) (ss, (pre.length : Int)) = some (match sizesFrom p ss (n :: r) with | some s => .inl s | none => .inr []) := by
      intro x h1 h2
      rw [loop_go h2]
      have := ih (pre ++ [n]) (ss ++ [x]) (by rw [h]; simp) (by simp [hl]) (sizeStep_sized hS h1).1
      simp only [List.length_append, List.length_singleton] at this
      rw [this]
      simp only [sizesFrom, h1]
    have stop : sizeStep p ss n = none → spec_l2Sizes.b0 e ps ss (pre.length : Int) = some (.inr (.inr [])) →
        loop (fun s : List Int × Int => spec_l2Sizes.b0 e ps s.1 s.2) (ss, (pre.length : Int)) = some (match sizesFrom p ss (n :: r) with | some s => .inl s | none => .inr []) := by
      intro h1 h2
      rw [loop_end h2]; simp only [sizesFrom, h1]
    have happ : ∀ x, app 8 ss [x] = some (ss ++ [x]) := fun x => app_small (by simp; omega) (by omega)
    have hw : IntKind.i64.wrap ((pre.length : Int) + 1) = ((pre.length + 1 : Nat) : Int) := W_nat (by omega)
    have hw1 : IntKind.i64.wrap ((pre.length : Int) - 1) = (pre.length : Int) - 1 := W_eq (by omega) (by omega)
    have unf : spec_l2Sizes.b0 e ps ss (pre.length : Int) = spec_l2Sizes.b0 e ps ss (pre.length : Int) := rfl
    unfold spec_l2Sizes.b0 at go stop
    simp only [if_pos (show (pre.length : Int) < (e.length : Int) by omega), hix, hixp, Option.bind_some, bnd, W, hw, hw1] at go stop
    have hlast : 1 ≤ pre.length → 1 ≤ ss.getD (pre.length - 1) 0 ∧ ss.getD (pre.length - 1) 0 ≤ (pre.length : Int) := fun g => by
      have := hS (pre.length - 1) (by omega); omega
    have hlx : 1 ≤ pre.length → ix ss ((pre.length : Int) - 1) = some (ss.getD (pre.length - 1) 0) := fun g => by
      rw [getL (by omega) (by omega), show ((pre.length : Int) - 1).toNat = pre.length - 1 by omega]
    generalize hz : ss.getD (pre.length - 1) 0 = z at *
    have hz' : ss.getD (ss.length - 1) 0 = z := by rw [hl]; exact hz
    rcases hq0 with q0 | q0 | q0
    · rw [q0] at go stop hp0
      by_cases hb0 : n.b = 0
      · have hp1 : p n = 0 := by
          rcases hp0 with g | g
          · exact g.symm
          · exact absurd hb0 g.2.2.2.2
        exact go 1 (by simp [sizeStep, hp1]) (by simp [hb0, happ])
      · have hp1 : p n ≠ 0 ∧ p n ≠ 1 ∧ p n ≠ 2 := by
          rcases hp0 with g | g
          · exact absurd (hb n g.symm) hb0
          · exact ⟨g.2.1, g.2.2.1, g.2.2.2.1⟩
        exact stop (by simp [sizeStep, hp1]) (by simp [hb0])
    · rw [q0] at go stop hp0
      have hp1 : p n = 1 := by
        rcases hp0 with g | g
        · exact g.symm
        · exact absurd g.1 (by omega)
      by_cases hc : 1 ≤ pre.length ∧ n.a = (pre.length : Int) - 1 ∧ n.b = 0
      · obtain ⟨c1, c2, c3⟩ := hc
        have hl1 := hlast c1
        have hw2 : IntKind.i64.wrap (1 + z) = 1 + z := W_eq (by omega) (by omega)
        refine go (1 + z) (by unfold sizeStep; rw [if_neg (by omega), if_pos hp1, hz', if_pos (by rw [hl]; omega)]) ?_
        rw [if_pos rfl, if_neg (by simp; omega), hlx c1]
        simp only [Option.bind_some, hw2, happ]
      · refine stop (by unfold sizeStep; rw [if_neg (by omega), if_pos hp1, if_neg (by rw [hl]; omega)]) ?_
        rw [if_pos rfl, if_pos (by simp; omega)]
    · rw [q0] at go stop hp0
      have hp1 : p n = 2 := by
        rcases hp0 with g | g
        · exact g.symm
        · exact absurd g.1 (by omega)
      rw [if_neg (by omega), if_pos rfl] at stop
      simp only [if_neg (show ¬ (2 : Int) = 1 by omega), if_pos] at go
      by_cases c1 : 2 ≤ pre.length ∧ n.b = (pre.length : Int) - 1
      · have hl1 := hlast (by omega)
        have hw2 : IntKind.i64.wrap ((pre.length : Int) - 1 - z) = (pre.length : Int) - 1 - z := W_eq (by omega) (by omega)
        rw [if_neg (by simp; omega), hlx (by omega), Option.bind_some, hw2] at stop
        simp only [hlx (show 1 ≤ pre.length by omega), Option.bind_some, hw2] at go
        by_cases c2 : 0 ≤ (pre.length : Int) - 1 - z ∧ n.a = (pre.length : Int) - 1 - z
        · have hx : ix ss ((pre.length : Int) - 1 - z) = some (ss.getD n.a.toNat 0) := by rw [getL (by omega) (by omega), c2.2]
          have h2 := hS n.a.toNat (by omega)
          have hw3 : IntKind.i64.wrap (1 + z) = 1 + z := W_eq (by omega) (by omega)
          have hw4 : IntKind.i64.wrap (1 + z + ss.getD n.a.toNat 0) = 1 + z + ss.getD n.a.toNat 0 := W_eq (by omega) (by omega)
          refine go (1 + z + ss.getD n.a.toNat 0) ?_ ?_
          · unfold sizeStep
            rw [if_neg (by omega), if_neg (by omega), if_pos hp1, hz', if_pos (by rw [hl]; omega)]
          · rw [if_neg (by simp; omega), if_neg (by simp; omega), hx]
            simp only [Option.bind_some, hw3, hw4, happ]
        · refine stop ?_ ?_
          · unfold sizeStep
            rw [if_neg (by omega), if_neg (by omega), if_pos hp1, hz', if_neg (by rw [hl]; omega)]
          · rw [if_pos (by simp; omega)]
      · refine stop ?_ ?_
        · unfold sizeStep
          rw [if_neg (by omega), if_neg (by omega), if_pos hp1, hz', if_neg]
          rw [hl]
          rintro ⟨g1, g2, g3, g4⟩
          have := hlast (by omega)
          exact c1 ⟨by omega, g2⟩
        · rw [if_pos (by simp; omega)]

/-- Where the trees of the first nodes begin; 0 behind them. -/
def begL (ss : List Int) (m : Nat) : List Int := ss.mapIdx (fun j s => (j : Int) + 1 - s) ++ List.replicate (m - ss.length) 0
theorem begL_len (ss : List Int) (m : Nat) (h : ss.length ≤ m) : (begL ss m).length = m := by unfold begL; simp; omega
theorem begL_get {ss : List Int} {m i : Nat} (h : i < ss.length) : (begL ss m).getD i 0 = (i : Int) + 1 - ss.getD i 0 := by
  unfold begL
  rw [List.getD_eq_getElem?_getD, List.getElem?_append_left (by simpa using h)]
  simp [h]
theorem begL_set {ss : List Int} {m : Nat} {x z : Int} (h : ss.length < m) (hx : z = (ss.length : Int) + 1 - x) : (begL ss m).set ss.length z = begL (ss ++ [x]) m := by
  unfold begL
  rw [List.set_append_right _ _ (by simp), List.mapIdx_append, show m - ss.length = (m - (ss.length + 1)) + 1 by omega, List.replicate_succ]
  simp [hx]
theorem begins_from (p : TNode → Int) (e : List TNode) (he : e.length ≤ 31) :
    ∀ (r pre : List TNode) (ss : List Int), e = pre ++ r → ss.length = pre.length → Sized ss →
      loop (fun s : List Int × Int => impl_begins.b0 e (fun n => some (p n)) s.1 s.2) (begL ss e.length, (pre.length : Int)) = some (match sizesFrom p ss r with | some s => .inl (begL s e.length) | none => .inr ([], false)) := by
  intro r
  induction r with
  | nil =>
    intro pre ss h hl hS
    refine loop_end ?_
    unfold impl_begins.b0
    rw [if_neg (by rw [h]; simp)]; rfl
  | cons n r ih =>
    intro pre ss h hl hS
    have hk : pre.length < e.length := by rw [h]; simp
    have hn : e.getD pre.length default = n := by rw [h]; simp
    have hix : ix e (pre.length : Int) = some n := by rw [ix_nat hk, hn]
    have hbl := begL_len ss e.length (by omega)
    have hck : ck (pre.length : Int) (begL ss e.length).length = some pre.length := ck_nat (by omega)
    have go : ∀ x, sizeStep p ss n = some (ss ++ [x]) → impl_begins.b0 e (fun n => some (p n)) (begL ss e.length) (pre.length : Int) = some (.inl (begL (ss ++ [x]) e.length, ((pre.length + 1 : Nat) : Int))) →
        loop (fun s : List Int × Int => impl_begins.b0 e (fun n => some (p n)) s.1 s.2) (begL ss e.length, (pre.length : Int)) = some (match sizesFrom p ss (n :: r) with | some s => .inl (begL s e.length) | none => .inr ([], false)) := by
      intro x h1 h2
      rw [loop_go h2]
      have := ih (pre ++ [n]) (ss ++ [x]) (by rw [h]; simp) (by simp [hl]) (sizeStep_sized hS h1).1
      simp only [List.length_append, List.length_singleton] at this
      rw [this]
      simp only [sizesFrom, h1]
    have stop : sizeStep p ss n = none → impl_begins.b0 e (fun n => some (p n)) (begL ss e.length) (pre.length : Int) = some (.inr (.inr ([], false))) →
        loop (fun s : List Int × Int => impl_begins.b0 e (fun n => some (p n)) s.1 s.2) (begL ss e.length, (pre.length : Int)) = some (match sizesFrom p ss (n :: r) with | some s => .inl (begL s e.length) | none => .inr ([], false)) := by
      intro h1 h2
      rw [loop_end h2]; simp only [sizesFrom, h1]
    have hw : IntKind.i64.wrap ((pre.length : Int) + 1) = ((pre.length + 1 : Nat) : Int) := W_nat (by omega)
    have hw1 : IntKind.i64.wrap ((pre.length : Int) - 1) = (pre.length : Int) - 1 := W_eq (by omega) (by omega)
    unfold impl_begins.b0 at go stop
    simp only [if_pos (show (pre.length : Int) < (e.length : Int) by omega), hix, hck, Option.bind_some, bnd, W, hw, hw1] at go stop
    have hlast : 1 ≤ pre.length → 1 ≤ ss.getD (pre.length - 1) 0 ∧ ss.getD (pre.length - 1) 0 ≤ (pre.length : Int) := fun g => by
      have := hS (pre.length - 1) (by omega); omega
    have hset : ∀ z x : Int, z = (ss.length : Int) + 1 - x → ((begL ss e.length).set pre.length (pre.length : Int)).set pre.length z = begL (ss ++ [x]) e.length := by
      intro z x hz
      rw [List.set_set, ← hl]; exact begL_set (by omega) hz
    have hset1 : (begL ss e.length).set pre.length (pre.length : Int) = begL (ss ++ [1]) e.length := by
      have := begL_set (ss := ss) (m := e.length) (x := 1) (z := (ss.length : Int)) (by omega) (by omega)
      rw [hl] at this; exact this
    have hls : ∀ z : Int, ((begL ss e.length).set pre.length z).length = e.length := fun z => by simp [hbl]
    have hget : ∀ i : Nat, i < pre.length → ix ((begL ss e.length).set pre.length (pre.length : Int)) (i : Int) = some ((i : Int) + 1 - ss.getD i 0) := by
      intro i hi
      rw [ix_nat (by rw [hls]; omega), ← begL_get (m := e.length) (by omega)]
      simp [List.getD, List.getElem?_set_ne (show pre.length ≠ i by omega)]
    have hck2 : ck (pre.length : Int) ((begL ss e.length).set pre.length (pre.length : Int)).length = some pre.length := ck_nat (by rw [hls]; omega)
    generalize hz : ss.getD (pre.length - 1) 0 = z at *
    have hz' : ss.getD (ss.length - 1) 0 = z := by rw [hl]; exact hz
    by_cases q0 : p n = 0
    · exact go 1 (by simp [sizeStep, q0]) (by rw [if_pos q0, hset1])
    rw [if_neg q0] at stop
    simp only [if_neg q0] at go
    by_cases q1 : p n = 1
    · rw [if_pos q1] at stop
      simp only [if_pos q1] at go
      by_cases hc : 1 ≤ pre.length ∧ n.a = (pre.length : Int) - 1 ∧ n.b = 0
      · obtain ⟨c1, c2, c3⟩ := hc
        refine go (1 + z) (by unfold sizeStep; rw [if_neg (by omega), if_pos q1, hz', if_pos (by rw [hl]; omega)]) ?_
        have hg := hget (pre.length - 1) (by omega)
        rw [show ((pre.length - 1 : Nat) : Int) = n.a by omega, hz] at hg
        rw [if_neg (by simp only [Bool.or_eq_true, decide_eq_true_eq]; omega), hg]
        simp only [Option.bind_some, hck2]
        rw [hset _ (1 + z) (by omega)]
      · exact stop (by unfold sizeStep; rw [if_neg (by omega), if_pos q1, if_neg (by rw [hl]; omega)]) (by rw [if_pos (by simp only [Bool.or_eq_true, decide_eq_true_eq]; omega)])
    rw [if_neg q1] at stop
    simp only [if_neg q1] at go
    by_cases q2 : p n = 2
    · rw [if_pos q2] at stop
      simp only [if_pos q2] at go
      by_cases c1 : 1 ≤ pre.length ∧ n.b = (pre.length : Int) - 1
      · have hl1 := hlast (by omega)
        have hg := hget (pre.length - 1) (by omega)
        rw [show ((pre.length - 1 : Nat) : Int) = (pre.length : Int) - 1 by omega, hz] at hg
        have hfalse : (decide ((pre.length : Int) = 0) || decide (n.b ≠ (pre.length : Int) - 1)) = false := by rw [Bool.or_eq_false_iff, decide_eq_false_iff_not, decide_eq_false_iff_not]; omega
        have hw2 : IntKind.i64.wrap ((pre.length : Int) - 1 + 1 - z - 1) = (pre.length : Int) - 1 - z := by rw [W_eq (by omega) (by omega)]; omega
        simp only [hfalse, Bool.not_false, whenO_t, hg, Option.bind_some, hw2, Bool.false_or] at go stop
        by_cases c2 : 0 ≤ (pre.length : Int) - 1 - z ∧ n.a = (pre.length : Int) - 1 - z
        · have h2 := hS n.a.toNat (by omega)
          have hg2 := hget n.a.toNat (by omega)
          rw [show ((n.a.toNat : Nat) : Int) = n.a by omega] at hg2
          refine go (1 + z + ss.getD n.a.toNat 0) (by unfold sizeStep; rw [if_neg (by omega), if_neg (by omega), if_pos q2, hz', if_pos (by rw [hl]; omega)]) ?_
          rw [if_neg (by simp only [Bool.or_eq_true, decide_eq_true_eq]; omega), hg2]
          simp only [Option.bind_some, hck2]
          rw [hset _ (1 + z + ss.getD n.a.toNat 0) (by omega)]
        · exact stop (by unfold sizeStep; rw [if_neg (by omega), if_neg (by omega), if_pos q2, hz', if_neg (by rw [hl]; omega)]) (by rw [if_pos (by simp only [Bool.or_eq_true, decide_eq_true_eq]; omega)])
      · have htrue : (decide ((pre.length : Int) = 0) || decide (n.b ≠ (pre.length : Int) - 1)) = true := by simp only [Bool.or_eq_true, decide_eq_true_eq]; omega
        simp only [htrue, Bool.not_true, whenO_f, Option.bind_some, Bool.true_or, if_true] at stop
        exact stop (by unfold sizeStep; rw [if_neg (by omega), if_neg (by omega), if_pos q2, if_neg (by rw [hl]; omega)]) (by first | trivial | rfl)
    · rw [if_neg q2] at stop
      exact stop (by unfold sizeStep; rw [if_neg q0, if_neg q1, if_neg q2]) rfl

theorem sizesFrom_sized {p : TNode → Int} : ∀ {r : List TNode} {ss s : List Int}, Sized ss → sizesFrom p ss r = some s → Sized s ∧ s.length = ss.length + r.length
  | [], ss, s, h, hs => by cases hs; exact ⟨h, by simp⟩
  | n :: r, ss, s, h, hs => by
    unfold sizesFrom at hs
    split at hs
    · rename_i ss' h1
      obtain ⟨g1, g2⟩ := sizeStep_sized h h1
      obtain ⟨k1, k2⟩ := sizesFrom_sized g1 hs
      exact ⟨k1, by simp; omega⟩
    · cases hs
theorem inRange_eq (x a b : Int) : impl_inRange x a b = decide (a ≤ x ∧ x ≤ b) := inR
theorem l1In_eq (x a b : Int) : spec_l1In x a b = decide (a ≤ x ∧ x ≤ b) := inR
theorem isTree_eq (p : TNode → Int) (e : List TNode) : impl_isTree e (fun n => some (p n)) = some (treeOk p e) := by
  unfold impl_isTree impl_begins treeOk
  rw [inRange_eq]
  by_cases h : 1 ≤ e.length ∧ e.length ≤ 31
  · rw [if_neg (by simp; omega), mk_ok (by omega) (by omega), Option.bind_some, Int.toNat_natCast]
    have h1 := begins_from p e h.2 e [] [] rfl rfl Sized.nil
    have h0 : begL [] e.length = List.replicate e.length 0 := by simp [begL]
    rw [h0] at h1
    simp only [List.length_nil, Int.natCast_zero] at h1
    rw [h1]
    cases hs : sizesFrom p [] e with
    | none => simp
    | some s =>
      obtain ⟨k1, k2⟩ := sizesFrom_sized Sized.nil hs
      simp only [List.length_nil, Nat.zero_add] at k2
      have hbl := begL_len s e.length (by omega)
      simp only [Option.bind_some, Sum.elim_inl, impl_begins.k0, W]
      rw [W_eq (by omega) (by omega), show ((e.length : Int) - 1) = ((e.length - 1 : Nat) : Int) by omega, ix_nat (by omega), Option.bind_some, show (default : Int) = 0 from rfl, begL_get (by omega)]
      simp only [Option.bind_some, h, and_self, decide_true, Bool.true_and, Option.some.injEq]
      rw [decide_eq_decide]; omega
  · rw [if_pos (by simp; omega)]; simp; omega

theorem sizesFrom_bad {p : TNode → Int} : ∀ {r : List TNode} {ss : List Int}, (∃ n ∈ r, p n ≠ 0 ∧ p n ≠ 1 ∧ p n ≠ 2) → sizesFrom p ss r = none
  | [], ss, ⟨n, h, _⟩ => by simp at h
  | m :: r, ss, ⟨n, h, k⟩ => by
    unfold sizesFrom
    rcases List.mem_cons.mp h with rfl | h
    · have : sizeStep p ss n = none := by unfold sizeStep; rw [if_neg k.1, if_neg k.2.1, if_neg k.2.2]
      rw [this]
    · split
      · exact sizesFrom_bad ⟨n, h, k⟩
      · rfl
/-- The numbers of parts, told one by one. -/
theorem parts_loop (bad : TNode → Bool) (q : TNode → Int) (e : List TNode) (hl : e.length ≤ 31) :
    loop (fun s : List Int × Int => if s.2 < (e.length : Int) then (ix e s.2).bind fun n => if bad n = true then some (.inr (.inr false)) else (app 8 s.1 [q n]).bind fun z => some (.inl (z, W (s.2 + 1))) else some (.inr (.inl s.1))) ([], 0)
      = some (if e.any bad = true then (.inr false : List Int ⊕ Bool) else .inl (e.map q)) := by
  have key : ∀ (r pre : List TNode), e = pre ++ r → loop (fun s : List Int × Int => if s.2 < (e.length : Int) then (ix e s.2).bind fun n => if bad n = true then some (.inr (.inr false)) else (app 8 s.1 [q n]).bind fun z => some (.inl (z, W (s.2 + 1))) else some (.inr (.inl s.1))) (pre.map q, (pre.length : Int))
      = some (if r.any bad = true then (.inr false : List Int ⊕ Bool) else .inl (e.map q)) := by
    intro r
    induction r with
    | nil => intro pre h; refine loop_end ?_; dsimp only; rw [if_neg (by rw [h]; simp)]; simp [h]
    | cons n r ih =>
      intro pre h
      have hk : pre.length < e.length := by rw [h]; simp
      have hix : ix e (pre.length : Int) = some n := by rw [ix_nat hk, h]; simp
      by_cases hb : bad n = true
      · rw [loop_end (r := .inr false)]
        · simp [hb]
        · dsimp only; rw [if_pos (by omega), hix, Option.bind_some, if_pos hb]
      · rw [loop_go (s' := ((pre ++ [n]).map q, ((pre ++ [n]).length : Int)))]
        · rw [ih (pre ++ [n]) (by rw [h]; simp)]
          simp [hb]
        · dsimp only
          rw [if_pos (by omega), hix, Option.bind_some, if_neg hb, app_small (by simp; omega) (by omega), Option.bind_some, W, W_nat (by omega)]
          simp
  have := key e [] rfl
  simpa using this
/-- The reference's last part: sizes out of the parts told. -/
theorem sizes_end (p q : TNode → Int) (e : List TNode) (h1 : 1 ≤ e.length) (h2 : e.length ≤ 31) (hp : ∀ n ∈ e, q n = p n ∨ (q n = 0 ∧ p n ≠ 0 ∧ p n ≠ 1 ∧ p n ≠ 2 ∧ n.b ≠ 0)) (hq : ∀ n ∈ e, q n = 0 ∨ q n = 1 ∨ q n = 2) (hb : ∀ n, p n = 0 → n.b = 0) :
    ((spec_l2Sizes e (e.map q)).bind fun a59 => bnd ((decide (((a59.length : Int)) = ((e.length : Int))))) fun c65 => (whenO c65 (ix a59 ((W (((e.length : Int)) - 1))))).bind fun a70 => some ((c65 && (decide (a70 = ((e.length : Int))))))) = some (treeOk p e) := by
  have hd : ∀ i, i < e.length → (e.map q).getD i 0 = q (e.getD i default) ∧ e.getD i default ∈ e := fun i hi => by
    refine ⟨by simp [hi], ?_⟩
    have : e.getD i default = e[i] := by simp [hi]
    rw [this]; exact List.getElem_mem hi
  have h := l2Sizes_from p e (e.map q) (by simp) h2 (fun i hi => by obtain ⟨g1, g2⟩ := hd i hi; rw [g1]; exact hp _ g2) (fun i hi => by obtain ⟨g1, g2⟩ := hd i hi; rw [g1]; exact hq _ g2) hb e [] [] rfl rfl Sized.nil
  simp only [List.length_nil, Int.natCast_zero] at h
  unfold spec_l2Sizes
  rw [h]
  unfold treeOk
  cases hs : sizesFrom p [] e with
  | none =>
    simp only [Option.bind_some, Sum.elim_inr, bnd]
    have : decide ((([] : List Int).length : Int) = (e.length : Int)) = false := by simp; omega
    rw [this]; simp [whenO_f]
  | some s =>
    obtain ⟨k1, k2⟩ := sizesFrom_sized Sized.nil hs
    simp only [List.length_nil, Nat.zero_add] at k2
    simp only [Option.bind_some, Sum.elim_inl, spec_l2Sizes.k0, bnd]
    have : decide ((s.length : Int) = (e.length : Int)) = true := by simp; omega
    rw [this, whenO_t, W, W_eq (by omega) (by omega), show ((e.length : Int) - 1) = ((e.length - 1 : Nat) : Int) by omega, ix_nat (by omega)]
    simp only [Option.bind_some, h1, h2, and_self, decide_true, Bool.true_and]
    rfl
end Go.Proofs.YthdoebgikbfndaaGreat
end

/- Trees of nodes: where the parts of a node lie; what is told of each node by its parts. -/
section
namespace Go.Proofs.YthdoebgikbfndaaGreat
open Go Go.RowKit E
set_option linter.unusedVariables false

/-- A node at place i has its parts ahead of it. -/
def NodeAt (p : TNode → Int) (i : Nat) (n : TNode) : Prop :=
  p n = 0 ∨ (p n = 1 ∧ 1 ≤ i ∧ n.a = (i : Int) - 1 ∧ n.b = 0) ∨ (p n = 2 ∧ 1 ≤ i ∧ n.b = (i : Int) - 1 ∧ 0 ≤ n.a ∧ n.a < (i : Int) - 1)
theorem sizeStep_node {p : TNode → Int} {ss ss' : List Int} {n : TNode} (hS : Sized ss) (h : sizeStep p ss n = some ss') : NodeAt p ss.length n := by
  unfold sizeStep at h
  split at h
  · rename_i k; exact .inl k
  · split at h
    · rename_i k
      split at h
      · rename_i g; exact .inr (.inl ⟨k, g.1, g.2.1, g.2.2⟩)
      · cases h
    · split at h
      · rename_i k
        split at h
        · rename_i g
          have := hS (ss.length - 1) (by omega)
          exact .inr (.inr ⟨k, g.1, g.2.1, by omega, by omega⟩)
        · cases h
      · cases h
theorem sizesFrom_nodes {p : TNode → Int} : ∀ {r : List TNode} {ss s : List Int}, Sized ss → sizesFrom p ss r = some s → ∀ i, i < r.length → NodeAt p (ss.length + i) (r.getD i default)
  | [], _, _, _, _, i, hi => by simp at hi
  | n :: r, ss, s, hS, h, i, hi => by
    unfold sizesFrom at h
    split at h
    · rename_i ss' h1
      obtain ⟨g1, g2⟩ := sizeStep_sized hS h1
      cases i with
      | zero => exact sizeStep_node hS h1
      | succ i =>
        have := sizesFrom_nodes g1 h i (by simpa using hi)
        rw [g2] at this
        simpa [Nat.add_assoc, Nat.add_comm 1 i] using this
    · cases h
/-- A right tree: its nodes. -/
def Nodes (p : TNode → Int) (e : List TNode) : Prop := 1 ≤ e.length ∧ e.length ≤ 31 ∧ ∀ i, i < e.length → NodeAt p i (e.getD i default)
theorem treeOk_nodes {p : TNode → Int} {e : List TNode} (h : treeOk p e = true) : Nodes p e := by
  unfold treeOk at h
  rw [Bool.and_eq_true, decide_eq_true_eq] at h
  obtain ⟨h1, h2⟩ := h
  cases hs : sizesFrom p [] e with
  | none => rw [hs] at h2; cases h2
  | some s =>
    refine ⟨h1.1, h1.2, fun i hi => ?_⟩
    have := sizesFrom_nodes Sized.nil hs i hi
    simpa using this

/-- What is told of each node, by what is told of those ahead. -/
def accum {β : Type} (f : TNode → List β → β) : List β → List TNode → List β
  | ts, [] => ts
  | ts, n :: r => accum f (ts ++ [f n ts]) r
end Go.Proofs.YthdoebgikbfndaaGreat
end

/- Formulas: the program and the reference find the same ones right. -/
section
namespace Go.Proofs.YthdoebgikbfndaaGreat
open Go Go.RowKit E
set_option linter.unusedVariables false

theorem lleaf_eq (n : TNode) (m : Int) : impl_leaf n m = if n.b = 0 ∧ 0 ≤ n.a ∧ n.a ≤ m then 0 else -1 := by
  unfold impl_leaf
  simp only [bnd, inRange_eq, Bool.and_eq_true, decide_eq_true_eq]
noncomputable abbrev ltP : TNode → Int := impl_ltlParts
theorem ltP_eq (n : TNode) : ltP n = if n.kind = 1 ∨ n.kind = 2 then (if n.b = 0 ∧ n.a = 0 then 0 else -1) else if n.kind = 3 then (if n.b = 0 ∧ 0 ≤ n.a ∧ n.a ≤ 2 then 0 else -1) else if n.kind = 4 ∨ n.kind = 7 ∨ n.kind = 10 ∨ n.kind = 11 then 1 else if n.kind = 5 ∨ n.kind = 6 ∨ n.kind = 8 ∨ n.kind = 9 then 2 else -1 := by
  unfold ltP impl_ltlParts impl_exprParts impl_exprParts.k0
  simp only [lleaf_eq, decide_eq_true_eq]
  (repeat' split) <;> first | rfl | omega
theorem l8Parts_eq (k : Int) : spec_l8Parts k = if k = 1 ∨ k = 2 ∨ k = 3 then 0 else if k = 4 ∨ k = 7 ∨ k = 10 ∨ k = 11 then 1 else if k = 5 ∨ k = 6 ∨ k = 8 ∨ k = 9 then 2 else -1 := by
  unfold spec_l8Parts spec_l8Parts.k0 spec_l8Parts.k1
  simp only [decide_eq_true_eq]
  (repeat' split) <;> first | rfl | omega
theorem l2Leaf_eq (n : TNode) : spec_l2Leaf n = decide ((n.kind = 3 ∧ 0 ≤ n.a ∧ n.a ≤ 2) ∨ (n.kind ≠ 3 ∧ n.a = 0)) := by
  unfold spec_l2Leaf
  simp only [l1In_eq]
  split <;> rw [decide_eq_decide] <;> omega
noncomputable def ltBad (n : TNode) : Bool := decide (spec_l8Parts n.kind < 0) || (decide (spec_l8Parts n.kind = 0) && !(spec_l2Leaf n))
theorem ltBad_iff (n : TNode) : ltBad n = true ↔ ¬ ((n.kind = 1 ∨ n.kind = 2) ∧ n.a = 0 ∨ n.kind = 3 ∧ 0 ≤ n.a ∧ n.a ≤ 2 ∨ (4 ≤ n.kind ∧ n.kind ≤ 11)) := by
  unfold ltBad
  rw [l2Leaf_eq, l8Parts_eq]
  simp only [Bool.or_eq_true, Bool.and_eq_true, decide_eq_true_eq, Bool.not_eq_true', decide_eq_false_iff_not]
  split
  · omega
  · split
    · omega
    · split <;> omega
theorem specLtlOk_eq (e : List TNode) : spec_LtlOk e = some (treeOk ltP e) := by
  unfold spec_LtlOk
  rw [l1In_eq]
  by_cases h : 1 ≤ e.length ∧ e.length ≤ 31
  · rw [if_neg (by simp; omega)]
    have h1 := parts_loop ltBad (fun n => spec_l8Parts n.kind) e h.2
    have h2 : loop (fun s : List Int × Int => spec_LtlOk.b0 e s.1 s.2) ([], 0) = some (if e.any ltBad = true then (.inr false : List Int ⊕ Bool) else .inl (e.map fun n => spec_l8Parts n.kind)) := by
      rw [← h1]
      congr 1
      funext s
      unfold spec_LtlOk.b0
      split
      · cases ix e s.2 with
        | none => rfl
        | some a =>
          simp only [Option.bind_some, bnd_eq]
          unfold ltBad
          by_cases c1 : spec_l8Parts a.kind < 0
          · rw [decide_eq_true c1, Bool.not_true, Bool.false_and, whenO_f]; rfl
          · rw [decide_eq_false c1, Bool.not_false, Bool.true_and]
            by_cases c2 : spec_l8Parts a.kind = 0
            · rw [decide_eq_true c2, whenO_t]; rfl
            · rw [decide_eq_false c2, whenO_f]; rfl
      · rfl
    rw [h2, Option.bind_some]
    by_cases hb : e.any ltBad = true
    · rw [if_pos hb, Sum.elim_inr]
      obtain ⟨n, hn, hbn⟩ := List.any_eq_true.mp hb
      rw [ltBad_iff] at hbn
      unfold treeOk
      rw [sizesFrom_bad ⟨n, hn, by rw [ltP_eq]; split <;> (try split) <;> (try split) <;> (try split) <;> omega⟩]
      simp
    · rw [if_neg hb, Sum.elim_inl]
      have hg : ∀ n ∈ e, ¬ ltBad n = true := fun n hn k => hb (List.any_eq_true.mpr ⟨n, hn, k⟩)
      refine sizes_end ltP (fun n => spec_l8Parts n.kind) e h.1 h.2 (fun n hn => ?_) (fun n hn => ?_) (fun n hn => ?_)
      · have := hg n hn
        rw [ltBad_iff] at this
        rw [ltP_eq, l8Parts_eq]
        split <;> (try split) <;> (try split) <;> (try split) <;> omega
      · have := hg n hn
        rw [ltBad_iff] at this
        rw [l8Parts_eq]
        split <;> (try split) <;> (try split) <;> omega
      · rw [ltP_eq] at hn
        split at hn <;> (try split at hn) <;> (try split at hn) <;> (try split at hn) <;> omega
  · rw [if_pos (by simp; omega)]; unfold treeOk; simp; omega
theorem implLtlOk_eq (e : List TNode) : impl_LtlOk e = some (treeOk ltP e) := by
  unfold impl_LtlOk
  rw [isTree_eq]; rfl
theorem ltKinds {i : Nat} {n : TNode} (hn : NodeAt ltP i n) :
    (((n.kind = 1 ∨ n.kind = 2) ∧ n.a = 0 ∨ n.kind = 3 ∧ 0 ≤ n.a ∧ n.a ≤ 2) ∧ n.b = 0) ∨ ((n.kind = 4 ∨ n.kind = 7 ∨ n.kind = 10 ∨ n.kind = 11) ∧ 1 ≤ i ∧ n.a = (i : Int) - 1 ∧ n.b = 0) ∨ ((n.kind = 5 ∨ n.kind = 6 ∨ n.kind = 8 ∨ n.kind = 9) ∧ 1 ≤ i ∧ n.b = (i : Int) - 1 ∧ 0 ≤ n.a ∧ n.a < (i : Int) - 1) := by
  have hk := ltP_eq n
  unfold NodeAt at hn
  by_cases k1 : n.kind = 1 ∨ n.kind = 2
  · rw [if_pos k1] at hk
    by_cases c : n.b = 0 ∧ n.a = 0
    · exact .inl (by omega)
    · rw [if_neg c] at hk; omega
  rw [if_neg k1] at hk
  by_cases k3 : n.kind = 3
  · rw [if_pos k3] at hk
    by_cases c : n.b = 0 ∧ 0 ≤ n.a ∧ n.a ≤ 2
    · exact .inl (by omega)
    · rw [if_neg c] at hk; omega
  rw [if_neg k3] at hk
  by_cases k4 : n.kind = 4 ∨ n.kind = 7 ∨ n.kind = 10 ∨ n.kind = 11
  · rw [if_pos k4] at hk
    exact .inr (.inl (by omega))
  rw [if_neg k4] at hk
  by_cases k5 : n.kind = 5 ∨ n.kind = 6 ∨ n.kind = 8 ∨ n.kind = 9
  · rw [if_pos k5] at hk
    exact .inr (.inr (by omega))
  · rw [if_neg k5] at hk; omega
end Go.Proofs.YthdoebgikbfndaaGreat
end

/- Places of the nodes of time. -/
section
namespace Go.Proofs.YthdoebgikbfndaaGreat
open Go Go.RowKit E
set_option linter.unusedVariables false

def tempL : Nat → List TNode → List Int
  | _, [] => []
  | k, n :: r => if n.kind ≥ 7 then (k : Int) :: tempL (k + 1) r else tempL (k + 1) r
theorem tempL_len : ∀ (r : List TNode) (k : Nat), (tempL k r).length ≤ r.length
  | [], _ => Nat.le_refl _
  | n :: r, k => by
    have := tempL_len r (k + 1)
    unfold tempL
    split
    · simp; omega
    · simp; omega
theorem temp_loop {body : List Int × Int → Option ((List Int × Int) ⊕ List Int)} (e : List TNode) (he : e.length ≤ 31) (hb : ∀ y x, body (y, x) = if x < (e.length : Int) then (ix e x).bind fun a => if a.kind ≥ 7 then (app 8 y [x]).bind fun z => some (.inl (z, W (x + 1))) else some (.inl (y, W (x + 1))) else some (.inr y)) : ∀ (r pre : List TNode) (y : List Int), e = pre ++ r → y.length ≤ pre.length → loop body (y, (pre.length : Int)) = some (y ++ tempL pre.length r)
  | [], pre, y, h, hy => loop_end (by rw [hb, if_neg (by rw [h]; simp)]; simp [tempL])
  | n :: r, pre, y, h, hy => by
    have hl : pre.length + (r.length + 1) = e.length := by rw [h]; simp
    have w4 : W ((pre.length : Int) + 1) = (((pre ++ [n]).length : Nat) : Int) := by rw [W, W_eq (by omega) (by omega)]; simp
    have hix : ix e (pre.length : Int) = some n := by rw [h]; exact ix_mid pre n r
    by_cases c : n.kind ≥ 7
    · rw [loop_go (s' := (y ++ [(pre.length : Int)], (((pre ++ [n]).length : Nat) : Int)))]
      · rw [temp_loop e he hb r (pre ++ [n]) _ (by rw [h]; simp) (by simp; omega)]
        simp [tempL, c]
      · rw [hb, if_pos (by omega), hix, Option.bind_some, if_pos c, app_small (by simp; omega) (by omega), Option.bind_some, w4]
    · rw [loop_go (s' := (y, (((pre ++ [n]).length : Nat) : Int)))]
      · rw [temp_loop e he hb r (pre ++ [n]) _ (by rw [h]; simp) (by simp; omega)]
        simp [tempL, c]
      · rw [hb, if_pos (by omega), hix, Option.bind_some, if_neg c, w4]
end Go.Proofs.YthdoebgikbfndaaGreat
end

/- What a node of a formula says, by its parts, the letter, and what is so from the next place on. -/
section
namespace Go.Proofs.YthdoebgikbfndaaGreat
open Go Go.RowKit E
set_option linter.unusedVariables false

def soV (n : TNode) (ts : List Bool) (l : Nat) (bit : Bool) : Bool :=
  if n.kind = 1 then true else if n.kind = 3 then l.testBit n.a.toNat else if n.kind = 4 then !(ts.getD n.a.toNat default)
  else if n.kind = 5 then (ts.getD n.a.toNat default && ts.getD n.b.toNat default) else if n.kind = 6 then (ts.getD n.a.toNat default || ts.getD n.b.toNat default)
  else if n.kind = 7 then bit else if n.kind = 8 then (ts.getD n.b.toNat default || (ts.getD n.a.toNat default && bit))
  else if n.kind = 9 then (ts.getD n.b.toNat default && (ts.getD n.a.toNat default || bit))
  else if n.kind = 10 then (ts.getD n.a.toNat default || bit) else if n.kind = 11 then (ts.getD n.a.toNat default && bit) else false
end Go.Proofs.YthdoebgikbfndaaGreat
end

/- Powers of two. -/
section
namespace Go.Proofs.YthdoebgikbfndaaGreat
open Go Go.RowKit E
set_option linter.unusedVariables false

theorem pow31 {n : Nat} (h : n ≤ 31) : 2 ^ n ≤ 2147483648 ∧ 1 ≤ 2 ^ n := ⟨by
  have : 2 ^ n ≤ 2 ^ 31 := Nat.pow_le_pow_right (by omega) h
  exact this, Nat.two_pow_pos n⟩
theorem lt31 {n s : Nat} (hn : n ≤ 31) (h : s < 2 ^ n) : s < 2 ^ 31 := Nat.lt_of_lt_of_le h (Nat.pow_le_pow_right (by omega) hn)
end Go.Proofs.YthdoebgikbfndaaGreat
end

/- Members of sets, by the reference. -/
section
namespace Go.Proofs.YthdoebgikbfndaaGreat
open Go Go.RowKit E
set_option linter.unusedVariables false

theorem and31 {x : Int} (h : 0 ≤ x ∧ x ≤ 30) : bAnd .i64 x 31 = x := by
  obtain ⟨y, rfl⟩ : ∃ y : Nat, x = y := ⟨x.toNat, by omega⟩
  have := bAnd_i (a := y) (b := 31) (by omega) (by omega)
  rw [show ((31 : Nat) : Int) = 31 from rfl] at this
  rw [this, show (31 : Nat) = 2 ^ 5 - 1 from rfl, Nat.and_two_pow_sub_one_eq_mod, Nat.mod_eq_of_lt (by omega)]
theorem l1Bit_eq {x : Int} (h : 0 ≤ x ∧ x ≤ 30) : spec_l1Bit x = some ((2 ^ x.toNat : Nat) : Int) := by
  unfold spec_l1Bit
  rw [and31 h, decide_eq_true h.1, chk_t, Option.bind_some]
  have := shl1_i (n := x.toNat) (by omega)
  rw [show ((x.toNat : Nat) : Int) = x by omega] at this
  rw [this]
theorem and_pow (s n : Nat) : decide (s &&& 2 ^ n ≠ 0) = s.testBit n := by
  cases h : s.testBit n with
  | false =>
    have : s &&& 2 ^ n = 0 := Nat.eq_of_testBit_eq fun i => by
      rw [Nat.testBit_and, Nat.testBit_two_pow, Nat.zero_testBit]
      by_cases e : n = i
      · subst e; rw [h]; rfl
      · simp [e]
    simp [this]
  | true =>
    rw [decide_eq_true_eq]
    intro g
    have := congrArg (fun x => x.testBit n) g
    simp [Nat.testBit_and, h, Nat.testBit_two_pow] at this
theorem l1Has_eq {s : Nat} (hs : s < 2 ^ 31) {x : Int} (h : 0 ≤ x ∧ x ≤ 30) : spec_l1Has (s : Int) x = some (s.testBit x.toNat) := by
  unfold spec_l1Has
  have hp := pow31 (n := x.toNat) (by omega)
  have h31 : (2 : Nat) ^ 31 = 2147483648 := rfl
  rw [bnd_eq, show spec_l1In x 0 30 = decide (0 ≤ x ∧ x ≤ 30) from inR, decide_eq_true h, whenO_t, l1Bit_eq h, Option.bind_some, bAnd_i (by omega) (by omega), Bool.true_and, ← and_pow]
  congr 1
  rw [decide_eq_decide]; omega
end Go.Proofs.YthdoebgikbfndaaGreat
end

/- Members of sets, by the program. -/
section
namespace Go.Proofs.YthdoebgikbfndaaGreat
open Go Go.RowKit E
set_option linter.unusedVariables false

theorem has_eq {s : Nat} (hs : s < 2 ^ 31) {x : Int} (h : 0 ≤ x ∧ x ≤ 30) : impl_has (s : Int) x = s.testBit x.toNat := by
  unfold impl_has
  have h31 : (2 : Nat) ^ 31 = 2147483648 := rfl
  obtain ⟨y, rfl⟩ : ∃ y : Nat, x = y := ⟨x.toNat, by omega⟩
  rw [u64_nat (by omega), bit_i (by omega) (by omega), Int.toNat_natCast]
end Go.Proofs.YthdoebgikbfndaaGreat
end

/- Members of sets. -/
section
namespace Go.Proofs.YthdoebgikbfndaaGreat
open Go Go.RowKit E
set_option linter.unusedVariables false

end Go.Proofs.YthdoebgikbfndaaGreat
end

/- What a formula's nodes say by a letter and what comes next, by both. -/
section
namespace Go.Proofs.YthdoebgikbfndaaGreat
open Go Go.RowKit E
set_option linter.unusedVariables false

/-- What a node says. -/
def stL (l s : Nat) : List TNode → List Bool → Nat → List Bool
  | [], acc, _ => acc
  | n :: r, acc, k => stL l s r (acc ++ [soV n acc l (s.testBit k)]) (if n.kind ≥ 7 then k + 1 else k)
theorem stL_len (l s : Nat) : ∀ (r : List TNode) (acc : List Bool) (k : Nat), (stL l s r acc k).length = acc.length + r.length
  | [], acc, k => rfl
  | n :: r, acc, k => by rw [stL, stL_len l s r]; simp; omega
theorem spec_loop {e : List TNode} (he : Nodes ltP e) {l s : Nat} (hl : l ≤ 7) (hs : s < 2 ^ 31) : ∀ (r pre : List TNode) (acc : List Bool) (k : Nat), e = pre ++ r → acc.length = pre.length → k ≤ pre.length →
    loop (fun q : List Bool × Int × Int => spec_l9Step.b0 e (s : Int) (l : Int) q.1 q.2.1 q.2.2) (acc, (k : Int), (pre.length : Int)) = some (stL l s r acc k)
  | [], pre, acc, k, h, ha, hk => loop_end (by dsimp only; unfold spec_l9Step.b0; rw [if_neg (by rw [h]; simp)]; rfl)
  | n :: r, pre, acc, k, h, ha, hk => by
    have hlen : pre.length + (r.length + 1) = e.length := by rw [h]; simp
    have h31 := he.2.1
    have hn : NodeAt ltP pre.length n := by
      have := he.2.2 pre.length (by omega)
      rw [h] at this; simpa using this
    have hkd := ltKinds hn
    have w4 : W ((pre.length : Int) + 1) = (((pre ++ [n]).length : Nat) : Int) := by rw [W, W_eq (by omega) (by omega)]; simp
    have w5 : W ((k : Int) + 1) = ((k + 1 : Nat) : Int) := W_nat (by omega)
    have hix : ix e (pre.length : Int) = some n := by rw [h]; exact ix_mid pre n r
    have hh : spec_l1Has (s : Int) (k : Int) = some (s.testBit k) := by
      have := l1Has_eq hs (x := (k : Int)) (by omega)
      rw [Int.toNat_natCast] at this; exact this
    have step : ∀ k' : Nat, spec_l9Step.k1 n acc (pre.length : Int) (l : Int) (s.testBit k) (k' : Int) = some (.inl (acc ++ [soV n acc l (s.testBit k)], (k' : Int), (((pre ++ [n]).length : Nat) : Int))) := fun k' => by
      have fin : ∀ b : Bool, b = soV n acc l (s.testBit k) → spec_l9Step.k2 acc (k' : Int) (pre.length : Int) b = some (.inl (acc ++ [soV n acc l (s.testBit k)], (k' : Int), (((pre ++ [n]).length : Nat) : Int))) := fun b hb => by
        subst hb
        unfold spec_l9Step.k2
        rw [app_small (by simp; omega) (by omega), Option.bind_some, w4]
      have ga : 0 ≤ n.a → n.a < pre.length → ix acc n.a = some (acc.getD n.a.toNat default) := fun h0 h1 => ix_ok h0 (by omega)
      have gb : 0 ≤ n.b → n.b < pre.length → ix acc n.b = some (acc.getD n.b.toNat default) := fun h0 h1 => ix_ok h0 (by omega)
      unfold spec_l9Step.k1
      by_cases k1 : n.kind = 1
      · rw [if_pos k1]; exact fin _ (by unfold soV; rw [if_pos k1])
      rw [if_neg k1]
      by_cases k3 : n.kind = 3
      · rw [if_pos k3, decide_eq_true (by omega : 0 ≤ n.a), chk_t, Option.bind_some]
        refine fin _ ?_
        have hb := bit_i (a := l) (n := n.a.toNat) (by omega) (by omega)
        rw [show ((n.a.toNat : Nat) : Int) = n.a by omega] at hb
        rw [hb]; unfold soV; rw [if_neg k1, if_pos k3]
      rw [if_neg k3]
      by_cases k4 : n.kind = 4
      · rw [if_pos k4, ga (by omega) (by omega), Option.bind_some]; exact fin _ (by unfold soV; rw [if_neg k1, if_neg k3, if_pos k4])
      rw [if_neg k4]
      by_cases k5 : n.kind = 5
      · rw [if_pos k5, ga (by omega) (by omega), Option.bind_some]
        cases ha' : acc.getD n.a.toNat default with
        | true => rw [whenO_t, gb (by omega) (by omega), Option.bind_some]; exact fin _ (by unfold soV; rw [if_neg k1, if_neg k3, if_neg k4, if_pos k5, ha'])
        | false => rw [whenO_f, Option.bind_some]; exact fin _ (by unfold soV; rw [if_neg k1, if_neg k3, if_neg k4, if_pos k5, ha']; rfl)
      rw [if_neg k5]
      by_cases k6 : n.kind = 6
      · rw [if_pos k6, ga (by omega) (by omega), Option.bind_some]
        cases ha' : acc.getD n.a.toNat default with
        | false => rw [Bool.not_false, whenO_t, gb (by omega) (by omega), Option.bind_some]; exact fin _ (by unfold soV; rw [if_neg k1, if_neg k3, if_neg k4, if_neg k5, if_pos k6, ha'])
        | true => rw [Bool.not_true, whenO_f, Option.bind_some]; exact fin _ (by unfold soV; rw [if_neg k1, if_neg k3, if_neg k4, if_neg k5, if_pos k6, ha']; rfl)
      rw [if_neg k6]
      by_cases k7 : n.kind = 7
      · rw [if_pos k7]; exact fin _ (by unfold soV; rw [if_neg k1, if_neg k3, if_neg k4, if_neg k5, if_neg k6, if_pos k7])
      rw [if_neg k7]
      by_cases k8 : n.kind = 8
      · rw [if_pos k8, gb (by omega) (by omega), Option.bind_some]
        cases hb' : acc.getD n.b.toNat default with
        | false => rw [Bool.not_false, whenO_t, ga (by omega) (by omega), Option.bind_some]; exact fin _ (by unfold soV; rw [if_neg k1, if_neg k3, if_neg k4, if_neg k5, if_neg k6, if_neg k7, if_pos k8, hb'])
        | true => rw [Bool.not_true, whenO_f, Option.bind_some]; exact fin _ (by unfold soV; rw [if_neg k1, if_neg k3, if_neg k4, if_neg k5, if_neg k6, if_neg k7, if_pos k8, hb']; rfl)
      rw [if_neg k8]
      by_cases k9 : n.kind = 9
      · rw [if_pos k9, gb (by omega) (by omega), Option.bind_some]
        cases hb' : acc.getD n.b.toNat default with
        | true => rw [whenO_t, ga (by omega) (by omega), Option.bind_some]; exact fin _ (by unfold soV; rw [if_neg k1, if_neg k3, if_neg k4, if_neg k5, if_neg k6, if_neg k7, if_neg k8, if_pos k9, hb'])
        | false => rw [whenO_f, Option.bind_some]; exact fin _ (by unfold soV; rw [if_neg k1, if_neg k3, if_neg k4, if_neg k5, if_neg k6, if_neg k7, if_neg k8, if_pos k9, hb']; rfl)
      rw [if_neg k9]
      by_cases k10 : n.kind = 10
      · rw [if_pos k10, ga (by omega) (by omega), Option.bind_some]; exact fin _ (by unfold soV; rw [if_neg k1, if_neg k3, if_neg k4, if_neg k5, if_neg k6, if_neg k7, if_neg k8, if_neg k9, if_pos k10])
      rw [if_neg k10]
      by_cases k11 : n.kind = 11
      · rw [if_pos k11, ga (by omega) (by omega), Option.bind_some]; exact fin _ (by unfold soV; rw [if_neg k1, if_neg k3, if_neg k4, if_neg k5, if_neg k6, if_neg k7, if_neg k8, if_neg k9, if_neg k10, if_pos k11])
      rw [if_neg k11]
      exact fin _ (by unfold soV; rw [if_neg k1, if_neg k3, if_neg k4, if_neg k5, if_neg k6, if_neg k7, if_neg k8, if_neg k9, if_neg k10, if_neg k11])
    have ih := spec_loop he hl hs r (pre ++ [n]) (acc ++ [soV n acc l (s.testBit k)]) (if n.kind ≥ 7 then k + 1 else k) (by rw [h]; simp) (by simp [ha]) (by split <;> simp <;> omega)
    rw [loop_go (s' := (acc ++ [soV n acc l (s.testBit k)], (((if n.kind ≥ 7 then k + 1 else k : Nat)) : Int), (((pre ++ [n]).length : Nat) : Int)))]
    · exact ih
    · dsimp only; unfold spec_l9Step.b0
      rw [if_pos (by omega), hix, Option.bind_some, hh, Option.bind_some]
      by_cases c : n.kind ≥ 7
      · rw [if_pos c, if_pos c, w5]; exact step (k + 1)
      · rw [if_neg c, if_neg c]; exact step k
/-- The first place of a number in a list. -/
theorem index_at {v : Int} : ∀ (a b pre : List Int), (∀ x ∈ a, x ≠ v) → pre.length + a.length + b.length ≤ 1000000 → loop (fun s : Int => slices_Index_int_int.b0 (pre ++ (a ++ v :: b)) v s) (pre.length : Int) = some (.inr ((pre.length + a.length : Nat) : Int))
  | [], b, pre, _, hl => loop_end (by unfold slices_Index_int_int.b0; rw [if_pos (by simp; omega), List.nil_append, ix_mid, Option.bind_some, if_pos rfl]; rfl)
  | x :: a, b, pre, h, hl => by
    have ih := index_at a b (pre ++ [x]) (fun y hy => h y (List.mem_cons_of_mem _ hy)) (by simp at hl ⊢; omega)
    have w4 : W ((pre.length : Int) + 1) = (((pre ++ [x]).length : Nat) : Int) := by rw [W, W_eq (by omega) (by omega)]; simp
    rw [loop_go (s' := (((pre ++ [x]).length : Nat) : Int))]
    · rw [List.append_assoc, List.singleton_append] at ih
      rw [List.cons_append, ih]
      simp; omega
    · unfold slices_Index_int_int.b0
      rw [if_pos (by simp; omega), List.cons_append, ix_mid, Option.bind_some, if_neg (fun e => h x List.mem_cons_self e.symm), w4]
theorem index_no {v : Int} : ∀ (a pre : List Int), (∀ x ∈ a, x ≠ v) → pre.length + a.length ≤ 1000000 → loop (fun s : Int => slices_Index_int_int.b0 (pre ++ a) v s) (pre.length : Int) = some (.inl ())
  | [], pre, _, hl => loop_end (by unfold slices_Index_int_int.b0; rw [if_neg (by simp)])
  | x :: a, pre, h, hl => by
    have ih := index_no a (pre ++ [x]) (fun y hy => h y (List.mem_cons_of_mem _ hy)) (by simp at hl ⊢; omega)
    have w4 : W ((pre.length : Int) + 1) = (((pre ++ [x]).length : Nat) : Int) := by rw [W, W_eq (by omega) (by omega)]; simp
    rw [loop_go (s' := (((pre ++ [x]).length : Nat) : Int))]
    · rw [List.append_assoc, List.singleton_append] at ih
      exact ih
    · unfold slices_Index_int_int.b0
      rw [if_pos (by simp; omega), ix_mid, Option.bind_some, if_neg (fun e => h x List.mem_cons_self e.symm), w4]
theorem tempL_app : ∀ (a b : List TNode) (k : Nat), tempL k (a ++ b) = tempL k a ++ tempL (k + a.length) b
  | [], b, k => by simp [tempL]
  | n :: a, b, k => by
    have e : k + 1 + a.length = k + (a.length + 1) := by omega
    simp only [List.cons_append, tempL, tempL_app a b (k + 1), List.length_cons, e]
    split <;> simp
theorem tempL_rng : ∀ (a : List TNode) (k : Nat), ∀ x ∈ tempL k a, (k : Int) ≤ x ∧ x < (k : Int) + a.length
  | [], k, x, h => by simp [tempL] at h
  | n :: a, k, x, h => by
    unfold tempL at h
    rw [List.length_cons]
    split at h
    · rcases List.mem_cons.mp h with rfl | h
      · omega
      · have := tempL_rng a (k + 1) x h; omega
    · have := tempL_rng a (k + 1) x h; omega
theorem index_temp {e pre r : List TNode} {n : TNode} (h : e = pre ++ n :: r) (hl : e.length ≤ 31) : slices_Index_int_int (tempL 0 e) (pre.length : Int) = some (if n.kind ≥ 7 then ((tempL 0 pre).length : Int) else -1) := by
  have hlen : pre.length + (r.length + 1) = e.length := by rw [h]; simp
  have l1 := tempL_len pre 0
  have l2 := tempL_len r (pre.length + 1)
  unfold slices_Index_int_int
  have e1 : tempL 0 e = tempL 0 pre ++ tempL pre.length (n :: r) := by rw [h, tempL_app, Nat.zero_add]
  by_cases c : n.kind ≥ 7
  · have e2 : tempL pre.length (n :: r) = (pre.length : Int) :: tempL (pre.length + 1) r := by simp [tempL, c]
    have := index_at (v := (pre.length : Int)) (tempL 0 pre) (tempL (pre.length + 1) r) [] (fun x hx => by have := tempL_rng pre 0 x hx; omega) (by simp; omega)
    rw [List.nil_append, List.length_nil, Nat.zero_add] at this
    rw [e1, e2, if_pos c]
    have h2 : loop (fun s : Int => slices_Index_int_int.b0 (tempL 0 pre ++ (pre.length : Int) :: tempL (pre.length + 1) r) (pre.length : Int) s) 0 = _ := this
    rw [h2]; rfl
  · have e2 : tempL pre.length (n :: r) = tempL (pre.length + 1) r := by simp [tempL, c]
    have := index_no (v := (pre.length : Int)) (tempL 0 pre ++ tempL (pre.length + 1) r) [] (fun x hx => by
      rcases List.mem_append.mp hx with hx | hx
      · have := tempL_rng pre 0 x hx; omega
      · have := tempL_rng r (pre.length + 1) x hx; omega) (by simp; omega)
    rw [List.nil_append] at this
    rw [e1, e2, if_neg c]
    have h2 : loop (fun s : Int => slices_Index_int_int.b0 (tempL 0 pre ++ tempL (pre.length + 1) r) (pre.length : Int) s) 0 = _ := this
    rw [h2]; rfl
theorem impl_loop {e : List TNode} (he : Nodes ltP e) {l s : Nat} (hl : l ≤ 7) (hs : s < 2 ^ 31) : ∀ (r pre : List TNode) (acc : List Bool) (k : Nat), e = pre ++ r → acc.length = pre.length → k = (tempL 0 pre).length →
    loop (fun q : List Bool × Int => impl_stepOf.b0 e (tempL 0 e) (l : Int) (s : Int) q.1 q.2) (acc ++ List.replicate r.length false, (pre.length : Int)) = some (stL l s r acc k)
  | [], pre, acc, k, h, ha, hk => loop_end (by dsimp only; unfold impl_stepOf.b0; rw [if_neg (by rw [h]; simp)]; simp [stL])
  | n :: r, pre, acc, k, h, ha, hk => by
    have hlen : pre.length + (r.length + 1) = e.length := by rw [h]; simp
    have h31 := he.2.1
    have l1 := tempL_len pre 0
    have hn : NodeAt ltP pre.length n := by
      have := he.2.2 pre.length (by omega)
      rw [h] at this; simpa using this
    have hkd := ltKinds hn
    have w4 : W ((pre.length : Int) + 1) = (((pre ++ [n]).length : Nat) : Int) := by rw [W, W_eq (by omega) (by omega)]; simp
    have hix : ix e (pre.length : Int) = some n := by rw [h]; exact ix_mid pre n r
    have hidx := index_temp h h31
    rw [← hk] at hidx
    have hlen2 : (acc ++ List.replicate (n :: r).length false).length = e.length := by simp; omega
    have gx : ∀ x : Int, 0 ≤ x → x < pre.length → ix (acc ++ List.replicate (n :: r).length false) x = some (acc.getD x.toNat default) := fun x h0 h1 => by
      rw [ix_ok h0 (by rw [hlen2]; omega), List.getD_eq_getElem?_getD, List.getElem?_append_left (by omega), ← List.getD_eq_getElem?_getD]
    have hso : ∀ nx : Bool, (n.kind ≥ 7 → nx = s.testBit k) → impl_soBy n (acc ++ List.replicate (n :: r).length false) (l : Int) nx = some (soV n acc l (s.testBit k)) := fun nx hnx => by
      unfold impl_soBy
      by_cases k7 : n.kind = 7
      · rw [if_pos k7, hnx (by omega)]; unfold soV; rw [if_neg (by omega), if_neg (by omega), if_neg (by omega), if_neg (by omega), if_neg (by omega), if_pos k7]
      rw [if_neg k7]
      by_cases k8 : n.kind = 8
      · rw [if_pos k8, gx _ (by omega) (by omega), Option.bind_some, hnx (by omega)]; unfold soV
        rw [if_neg (by omega), if_neg (by omega), if_neg (by omega), if_neg (by omega), if_neg (by omega), if_neg k7, if_pos k8]
        cases acc.getD n.b.toNat default with
        | false => rw [Bool.not_false, whenO_t, gx _ (by omega) (by omega)]; rfl
        | true => rfl
      rw [if_neg k8]
      by_cases k9 : n.kind = 9
      · rw [if_pos k9, gx _ (by omega) (by omega), Option.bind_some, hnx (by omega)]; unfold soV
        rw [if_neg (by omega), if_neg (by omega), if_neg (by omega), if_neg (by omega), if_neg (by omega), if_neg k7, if_neg k8, if_pos k9]
        cases acc.getD n.b.toNat default with
        | true => rw [whenO_t, gx _ (by omega) (by omega)]; rfl
        | false => rfl
      rw [if_neg k9]
      by_cases k10 : n.kind = 10
      · rw [if_pos k10, gx _ (by omega) (by omega), Option.bind_some, hnx (by omega)]; unfold soV
        rw [if_neg (by omega), if_neg (by omega), if_neg (by omega), if_neg (by omega), if_neg (by omega), if_neg k7, if_neg k8, if_neg k9, if_pos k10]
      rw [if_neg k10]
      by_cases k11 : n.kind = 11
      · rw [if_pos k11, gx _ (by omega) (by omega), Option.bind_some, hnx (by omega)]; unfold soV
        rw [if_neg (by omega), if_neg (by omega), if_neg (by omega), if_neg (by omega), if_neg (by omega), if_neg k7, if_neg k8, if_neg k9, if_neg k10, if_pos k11]
      rw [if_neg k11]
      unfold impl_plain soV
      by_cases k1 : n.kind = 1
      · rw [if_pos k1, if_pos k1]; rfl
      rw [if_neg k1, if_neg k1]
      by_cases k3 : n.kind = 3
      · rw [if_pos k3, if_pos k3, has_eq (by have : (2 : Nat) ^ 31 = 2147483648 := rfl; omega) (by omega)]; rfl
      rw [if_neg k3, if_neg k3]
      by_cases k4 : n.kind = 4
      · rw [if_pos k4, if_pos k4, gx _ (by omega) (by omega)]; rfl
      rw [if_neg k4, if_neg k4]
      by_cases k5 : n.kind = 5
      · rw [if_pos k5, if_pos k5, gx _ (by omega) (by omega), Option.bind_some]
        cases acc.getD n.a.toNat default with
        | true => rw [whenO_t, gx _ (by omega) (by omega)]; rfl
        | false => rfl
      rw [if_neg k5, if_neg k5]
      by_cases k6 : n.kind = 6
      · rw [if_pos k6, if_pos k6, gx _ (by omega) (by omega), Option.bind_some]
        cases acc.getD n.a.toNat default with
        | false => rw [Bool.not_false, whenO_t, gx _ (by omega) (by omega)]; rfl
        | true => rfl
      rw [if_neg k6, if_neg k6, if_neg k7, if_neg k8, if_neg k9, if_neg k10, if_neg k11]; rfl
    have e3 : (if n.kind ≥ 7 then k + 1 else k) = (tempL 0 (pre ++ [n])).length := by
      rw [tempL_app, List.length_append, ← hk]
      simp only [tempL]
      split <;> simp
    have ih := impl_loop he hl hs r (pre ++ [n]) (acc ++ [soV n acc l (s.testBit k)]) (if n.kind ≥ 7 then k + 1 else k) (by rw [h]; simp) (by simp [ha]) e3
    rw [loop_go (s' := (acc ++ [soV n acc l (s.testBit k)] ++ List.replicate r.length false, (((pre ++ [n]).length : Nat) : Int)))]
    · exact ih
    · dsimp only; unfold impl_stepOf.b0
      rw [if_pos (by omega), hix, Option.bind_some, hidx, Option.bind_some, bnd_eq]
      rw [hso _ (fun c => by
        rw [if_pos c, decide_eq_true (by omega : ((k : Nat) : Int) ≥ 0), Bool.true_and]
        have := has_eq hs (x := (k : Int)) (by omega)
        rw [Int.toNat_natCast] at this; exact this), Option.bind_some, ck_nat (by rw [hlen2]; omega), Option.bind_some, w4]
      rw [List.length_cons, List.replicate_succ, ← ha, set_mid]
      simp
theorem l9Step_eq {e : List TNode} (he : Nodes ltP e) {l s : Nat} (hl : l ≤ 7) (hs : s < 2 ^ 31) : spec_l9Step e (l : Int) (s : Int) = some (stL l s e [] 0) := by
  unfold spec_l9Step
  have h1 := spec_loop he (l := l) (s := s) hl hs e [] [] 0 rfl rfl (Nat.le_refl _)
  have h2 : loop (fun q : List Bool × Int × Int => spec_l9Step.b0 e s l q.1 q.2.1 q.2.2) ([], 0, 0) = _ := h1
  rw [h2]; rfl
theorem temporal_eq {e : List TNode} (he : e.length ≤ 31) : impl_temporal e = some (tempL 0 e) := by
  unfold impl_temporal
  have ht := temp_loop (body := fun s : List Int × Int => impl_temporal.b0 e s.1 s.2) e he (fun y x => rfl) e [] [] rfl (by simp)
  have ht2 : loop (fun s : List Int × Int => impl_temporal.b0 e s.1 s.2) ([], 0) = some (tempL 0 e) := ht
  rw [ht2]; rfl
theorem stepOf_eq {e : List TNode} (he : Nodes ltP e) {l s : Nat} (hl : l ≤ 7) (hs : s < 2 ^ 31) : impl_stepOf e (l : Int) (s : Int) = some (stL l s e [] 0) := by
  have h31 := he.2.1
  unfold impl_stepOf
  rw [mk_ok (by omega) (by omega), Option.bind_some, temporal_eq h31, Option.bind_some, Int.toNat_natCast]
  have h1 := impl_loop he (l := l) (s := s) hl hs e [] [] 0 rfl rfl rfl
  have h2 : loop (fun q : List Bool × Int => impl_stepOf.b0 e (tempL 0 e) l s q.1 q.2) (List.replicate e.length false, 0) = _ := h1
  rw [h2]; rfl
end Go.Proofs.YthdoebgikbfndaaGreat
end

/- A bit. -/
section
namespace Go.Proofs.YthdoebgikbfndaaGreat
open Go Go.RowKit E
set_option linter.unusedVariables false

theorem only_eq {n : Nat} (h : n ≤ 31) : impl_only (n : Int) = ((2 ^ n : Nat) : Int) := by
  unfold impl_only
  rw [u64_nat (by omega), shl1_i (by omega)]
end Go.Proofs.YthdoebgikbfndaaGreat
end

/- Loops that ask whether all are so. -/
section
namespace Go.Proofs.YthdoebgikbfndaaGreat
open Go Go.RowKit E
set_option linter.unusedVariables false

theorem inRg (x a b : Int) : impl_inRange x a b = decide (a ≤ x ∧ x ≤ b) := inR
theorem l1Rg (x a b : Int) : spec_l1In x a b = decide (a ≤ x ∧ x ≤ b) := inR
theorem WN {k : Nat} (h : k < 9223372036854775807) : W ((k : Int) + 1) = ((k + 1 : Nat) : Int) := W_nat h
/-- A loop that asks each place. -/
theorem all_loop {body : Int → Option (Int ⊕ (Unit ⊕ Bool))} (n : Nat) (c : Nat → Bool) (go : ∀ k, k < n → body (k : Int) = some (if c k = true then .inl ((k + 1 : Nat) : Int) else .inr (.inr false))) (fin : body (n : Int) = some (.inr (.inl ()))) : loop body 0 = some (if (List.range n).all c = true then .inl () else .inr false) := by
  have key : ∀ d k, k + d = n → (∀ j, j < k → c j = true) → loop body (k : Int) = some (if (List.range n).all c = true then .inl () else .inr false) := by
    intro d
    induction d with
    | zero =>
      intro k hk he
      obtain rfl : k = n := by omega
      rw [if_pos (List.all_eq_true.mpr fun x hx => he x (List.mem_range.mp hx))]
      exact loop_end fin
    | succ d ih =>
      intro k hk he
      by_cases h : c k = true
      · rw [loop_go (s' := ((k + 1 : Nat) : Int)) (by rw [go k (by omega), if_pos h])]
        refine ih (k + 1) (by omega) fun j hj => ?_
        by_cases e : j = k
        · rw [e]; exact h
        · exact he j (by omega)
      · rw [if_neg (fun g => h (List.all_eq_true.mp g k (List.mem_range.mpr (by omega))))]
        exact loop_end (by rw [go k (by omega), if_neg h])
  exact key n 0 (by omega) (fun j hj => absurd hj (by omega))
end Go.Proofs.YthdoebgikbfndaaGreat
end

/- What a step says of the nodes of time: what must have been promised, and its marks. -/
section
namespace Go.Proofs.YthdoebgikbfndaaGreat
open Go Go.RowKit E
set_option linter.unusedVariables false

/-- A place of a node of time. -/
structure TM (e : List TNode) (x : Int) : Prop where
  ge : 0 ≤ x
  lt : x < e.length
  kind : 7 ≤ (e.getD x.toNat default).kind ∧ (e.getD x.toNat default).kind ≤ 11
  a : 0 ≤ (e.getD x.toNat default).a ∧ (e.getD x.toNat default).a < e.length
  b : 0 ≤ (e.getD x.toNat default).b ∧ (e.getD x.toNat default).b < e.length
theorem tempL_mem : ∀ (r : List TNode) (k : Nat), ∀ x ∈ tempL k r, ∃ j, j < r.length ∧ x = ((k + j : Nat) : Int) ∧ (r.getD j default).kind ≥ 7
  | [], _, x, h => by simp [tempL] at h
  | n :: r, k, x, h => by
    unfold tempL at h
    have go : x ∈ tempL (k + 1) r → ∃ j, j < (n :: r).length ∧ x = ((k + j : Nat) : Int) ∧ ((n :: r).getD j default).kind ≥ 7 := fun h => by
      obtain ⟨j, h1, h2, h3⟩ := tempL_mem r (k + 1) x h
      exact ⟨j + 1, by simp; omega, by rw [h2]; congr 1; omega, by simpa using h3⟩
    split at h
    · rename_i c
      rcases List.mem_cons.mp h with rfl | h
      · exact ⟨0, by simp, by simp, by simpa using c⟩
      · exact go h
    · exact go h
theorem tempL_tm {e : List TNode} (he : Nodes ltP e) : ∀ x ∈ tempL 0 e, TM e x := fun x hx => by
  obtain ⟨j, h1, h2, h3⟩ := tempL_mem e 0 x hx
  rw [Nat.zero_add] at h2
  subst h2
  have hk := ltKinds (he.2.2 j h1)
  refine ⟨by omega, by omega, ?_, ?_, ?_⟩ <;> rw [Int.toNat_natCast] <;> omega

def nowV (e : List TNode) (so : List Bool) (x : Int) : Bool := if (e.getD x.toNat default).kind = 7 then so.getD (e.getD x.toNat default).a.toNat default else so.getD x.toNat default
def mrkV (e : List TNode) (so : List Bool) (x : Int) : Bool :=
  if (e.getD x.toNat default).kind = 8 then !(so.getD x.toNat default) || so.getD (e.getD x.toNat default).b.toNat default
  else if (e.getD x.toNat default).kind = 10 then !(so.getD x.toNat default) || so.getD (e.getD x.toNat default).a.toNat default
  else if (e.getD x.toNat default).kind = 9 then so.getD x.toNat default || !(so.getD (e.getD x.toNat default).b.toNat default)
  else if (e.getD x.toNat default).kind = 11 then so.getD x.toNat default || !(so.getD (e.getD x.toNat default).a.toNat default) else true
def bitsF (f : Int → Bool) : List Int → Nat → Nat → Nat
  | [], _, s => s
  | x :: r, k, s => bitsF f r (k + 1) (if f x = true then s ||| 2 ^ k else s)
theorem bit_step {s k : Nat} (b : Bool) (hs : s < 2 ^ k) : (if b = true then s ||| 2 ^ k else s) < 2 ^ (k + 1) := by
  have h2 : (2 : Nat) ^ k < 2 ^ (k + 1) := Nat.pow_lt_pow_right (by omega) (by omega)
  split
  · exact Nat.or_lt_two_pow (by omega) h2
  · omega
theorem bitsF_lt (f : Int → Bool) : ∀ (r : List Int) (k s : Nat), s < 2 ^ k → bitsF f r k s < 2 ^ (k + r.length)
  | [], k, s, h => by simpa [bitsF] using h
  | x :: r, k, s, h => by
    have := bitsF_lt f r (k + 1) _ (bit_step (f x) h)
    rw [List.length_cons, show k + (r.length + 1) = k + 1 + r.length by omega]
    exact this
theorem ixB {so : List Bool} {x : Int} (h0 : 0 ≤ x) (h : x < so.length) : ix so x = some (so.getD x.toNat default) := by
  obtain ⟨i, rfl⟩ : ∃ i : Nat, x = i := ⟨x.toNat, by omega⟩
  rw [Int.toNat_natCast]; exact ix_nat (by omega)
theorem ixN {so : List TNode} {x : Int} (h0 : 0 ≤ x) (h : x < so.length) : ix so x = some (so.getD x.toNat default) := by
  obtain ⟨i, rfl⟩ : ∃ i : Nat, x = i := ⟨x.toNat, by omega⟩
  rw [Int.toNat_natCast]; exact ix_nat (by omega)
theorem put_bit {s k : Nat} (hk : k ≤ 30) (hs : s < 2 ^ k) : bOr .i64 (s : Int) ((2 ^ k : Nat) : Int) = ((s ||| 2 ^ k : Nat) : Int) := by
  have : (2 : Nat) ^ k ≤ 2 ^ 30 := Nat.pow_le_pow_right (by omega) hk
  exact bOr_i (by omega) (by omega)

theorem told_loop {e : List TNode} {so : List Bool} (hs : so.length = e.length) {ts : List Int} (hl : ts.length ≤ 30) (ht : ∀ x ∈ ts, TM e x) : ∀ (r pre : List Int) (s : Nat), ts = pre ++ r → s < 2 ^ pre.length →
    loop (fun q : Int × Int => impl_toldBy.b0 ts e so q.1 q.2) ((s : Int), (pre.length : Int)) = some ((bitsF (nowV e so) r pre.length s : Nat) : Int)
  | [], pre, s, h, _ => loop_end (by dsimp only; unfold impl_toldBy.b0; rw [if_neg (by rw [h]; simp)]; rfl)
  | x :: r, pre, s, h, hb => by
    have hlen : pre.length + (r.length + 1) = ts.length := by rw [h]; simp
    have tm := ht x (by rw [h]; simp)
    have w4 : W ((pre.length : Int) + 1) = (((pre ++ [x]).length : Nat) : Int) := by rw [W, W_eq (by omega) (by omega)]; simp
    have hix : ix ts (pre.length : Int) = some x := by rw [h]; exact ix_mid pre x r
    have ih := told_loop hs hl ht r (pre ++ [x]) (if nowV e so x = true then s ||| 2 ^ pre.length else s) (by rw [h]; simp) (by rw [List.length_append, List.length_singleton]; exact bit_step _ hb)
    rw [loop_go (s' := (((if nowV e so x = true then s ||| 2 ^ pre.length else s : Nat) : Int), (((pre ++ [x]).length : Nat) : Int)))]
    · rw [ih, bitsF]; simp
    · have h1 := tm.ge; have h2 := tm.lt; have h3 := tm.a
      dsimp only; unfold impl_toldBy.b0
      rw [if_pos (by omega), hix, Option.bind_some, ixN h1 h2, Option.bind_some]
      unfold impl_toldBy.k1 nowV
      rw [w4, only_eq (by omega), put_bit (by omega) hb]
      by_cases c : (e.getD x.toNat default).kind = 7
      · rw [if_pos c, Option.bind_some, ixB h3.1 (by omega), Option.bind_some, if_pos c]
        split <;> rfl
      · rw [if_neg c, ixB h1 (by omega), Option.bind_some, if_neg c]
        split <;> rfl
theorem toldBy_eq {e : List TNode} {so : List Bool} (hs : so.length = e.length) {ts : List Int} (hl : ts.length ≤ 30) (ht : ∀ x ∈ ts, TM e x) : impl_toldBy e ts so = some ((bitsF (nowV e so) ts 0 0 : Nat) : Int) := by
  unfold impl_toldBy
  have h := told_loop hs hl ht ts [] 0 rfl (by simp)
  have h2 : loop (fun q : Int × Int => impl_toldBy.b0 ts e so q.1 q.2) (0, 0) = _ := h
  rw [h2]; rfl
theorem marks_loop {e : List TNode} {so : List Bool} (hs : so.length = e.length) {ts : List Int} (hl : ts.length ≤ 30) (ht : ∀ x ∈ ts, TM e x) : ∀ (r pre : List Int) (s : Nat), ts = pre ++ r → s < 2 ^ pre.length →
    loop (fun q : Int × Int => impl_marksOf.b0 ts e so q.1 q.2) ((s : Int), (pre.length : Int)) = some ((bitsF (mrkV e so) r pre.length s : Nat) : Int)
  | [], pre, s, h, _ => loop_end (by dsimp only; unfold impl_marksOf.b0; rw [if_neg (by rw [h]; simp)]; rfl)
  | x :: r, pre, s, h, hb => by
    have hlen : pre.length + (r.length + 1) = ts.length := by rw [h]; simp
    have tm := ht x (by rw [h]; simp)
    have w4 : W ((pre.length : Int) + 1) = (((pre ++ [x]).length : Nat) : Int) := by rw [W, W_eq (by omega) (by omega)]; simp
    have hix : ix ts (pre.length : Int) = some x := by rw [h]; exact ix_mid pre x r
    have ih := marks_loop hs hl ht r (pre ++ [x]) (if mrkV e so x = true then s ||| 2 ^ pre.length else s) (by rw [h]; simp) (by rw [List.length_append, List.length_singleton]; exact bit_step _ hb)
    rw [loop_go (s' := (((if mrkV e so x = true then s ||| 2 ^ pre.length else s : Nat) : Int), (((pre ++ [x]).length : Nat) : Int)))]
    · rw [ih, bitsF]; simp
    · have h1 := tm.ge; have h2 := tm.lt; have h3 := tm.a; have h4 := tm.b
      dsimp only; unfold impl_marksOf.b0
      rw [if_pos (by omega), hix, Option.bind_some, ixN h1 h2, Option.bind_some]
      unfold impl_marksOf.k1 mrkV
      simp only [w4, only_eq (n := pre.length) (by omega), put_bit (k := pre.length) (by omega) hb, ixB h1 (by omega : x < so.length), ixB h3.1 (by omega : (e.getD x.toNat default).a < so.length), ixB h4.1 (by omega : (e.getD x.toNat default).b < so.length), Option.bind_some, bnd_eq]
      generalize so.getD x.toNat default = u
      generalize so.getD (e.getD x.toNat default).a.toNat default = ua
      generalize so.getD (e.getD x.toNat default).b.toNat default = ub
      generalize (e.getD x.toNat default).kind = kd
      by_cases c8 : kd = 8
      · subst c8; cases u <;> cases ub <;> rfl
      by_cases c10 : kd = 10
      · subst c10; cases u <;> cases ua <;> rfl
      by_cases c9 : kd = 9
      · subst c9; cases u <;> cases ub <;> rfl
      by_cases c11 : kd = 11
      · subst c11; cases u <;> cases ua <;> rfl
      simp only [if_neg c8, if_neg c10, if_neg c9, if_neg c11]; rfl
theorem marksOf_eq {e : List TNode} {so : List Bool} (hs : so.length = e.length) {ts : List Int} (hl : ts.length ≤ 30) (ht : ∀ x ∈ ts, TM e x) : impl_marksOf e ts so = some ((bitsF (mrkV e so) ts 0 0 : Nat) : Int) := by
  unfold impl_marksOf
  have h := marks_loop hs hl ht ts [] 0 rfl (by simp)
  have h2 : loop (fun q : Int × Int => impl_marksOf.b0 ts e so q.1 q.2) (0, 0) = _ := h
  rw [h2]; rfl
theorem bits_loop {e : List TNode} {so : List Bool} (hs : so.length = e.length) {ts : List Int} (hl : ts.length ≤ 30) (ht : ∀ x ∈ ts, TM e x) : ∀ (r pre : List Int) (s m : Nat), ts = pre ++ r → s < 2 ^ pre.length → m < 2 ^ pre.length →
    loop (fun q : Int × Int × Int => spec_l10Bits.b0 ts e so q.1 q.2.1 q.2.2) ((s : Int), (m : Int), (pre.length : Int)) = some (((bitsF (nowV e so) r pre.length s : Nat) : Int), ((bitsF (mrkV e so) r pre.length m : Nat) : Int))
  | [], pre, s, m, h, _, _ => loop_end (by dsimp only; unfold spec_l10Bits.b0; rw [if_neg (by rw [h]; simp)]; rfl)
  | x :: r, pre, s, m, h, hb, hm => by
    have hlen : pre.length + (r.length + 1) = ts.length := by rw [h]; simp
    have tm := ht x (by rw [h]; simp)
    have w4 : W ((pre.length : Int) + 1) = (((pre ++ [x]).length : Nat) : Int) := by rw [W, W_eq (by omega) (by omega)]; simp
    have hix : ix ts (pre.length : Int) = some x := by rw [h]; exact ix_mid pre x r
    have ih := bits_loop hs hl ht r (pre ++ [x]) (if nowV e so x = true then s ||| 2 ^ pre.length else s) (if mrkV e so x = true then m ||| 2 ^ pre.length else m) (by rw [h]; simp) (by rw [List.length_append, List.length_singleton]; exact bit_step _ hb) (by rw [List.length_append, List.length_singleton]; exact bit_step _ hm)
    rw [loop_go (s' := (((if nowV e so x = true then s ||| 2 ^ pre.length else s : Nat) : Int), ((if mrkV e so x = true then m ||| 2 ^ pre.length else m : Nat) : Int), (((pre ++ [x]).length : Nat) : Int)))]
    · rw [ih]; simp [bitsF]
    · have h1 := tm.ge; have h2 := tm.lt; have h3 := tm.a; have h4 := tm.b; have h5 := tm.kind
      dsimp only; unfold spec_l10Bits.b0
      have lb := l1Bit_eq (x := (pre.length : Int)) (by omega)
      rw [Int.toNat_natCast] at lb
      rw [if_pos (by omega)]
      unfold spec_l10Bits.k1 spec_l10Bits.k2 mrkV nowV
      simp only [hix, Option.bind_some, ixN h1 h2, w4, lb, put_bit (k := pre.length) (by omega) hb, put_bit (k := pre.length) (by omega) hm, ixB h1 (by omega : x < so.length), ixB h3.1 (by omega : (e.getD x.toNat default).a < so.length), ixB h4.1 (by omega : (e.getD x.toNat default).b < so.length), bnd_eq]
      generalize so.getD x.toNat default = u
      generalize so.getD (e.getD x.toNat default).a.toNat default = ua
      generalize so.getD (e.getD x.toNat default).b.toNat default = ub
      generalize (e.getD x.toNat default).kind = kd at h5
      have : kd = 7 ∨ kd = 8 ∨ kd = 9 ∨ kd = 10 ∨ kd = 11 := by omega
      rcases this with rfl | rfl | rfl | rfl | rfl <;> cases u <;> cases ua <;> cases ub <;> rfl
theorem l10Bits_eq {e : List TNode} {so : List Bool} (hs : so.length = e.length) {ts : List Int} (hl : ts.length ≤ 30) (ht : ∀ x ∈ ts, TM e x) : spec_l10Bits e ts so = some (((bitsF (nowV e so) ts 0 0 : Nat) : Int), ((bitsF (mrkV e so) ts 0 0 : Nat) : Int)) := by
  unfold spec_l10Bits
  have h := bits_loop hs hl ht ts [] 0 0 rfl (by simp) (by simp)
  have h2 : loop (fun q : Int × Int × Int => spec_l10Bits.b0 ts e so q.1 q.2.1 q.2.2) (0, 0, 0) = _ := h
  rw [h2]; rfl
end Go.Proofs.YthdoebgikbfndaaGreat
end

/- Sorting comes to the one row in strict order that holds the same. -/
section
namespace Go.Proofs.YthdoebgikbfndaaGreat
open Go Go.RowKit E
set_option linter.unusedVariables false

/-- What is in strict order and holds the same is what sorting comes to. -/
theorem sortBy_eq {α : Type} [Inhabited α] {g : α → α → Option Int} {lt : α → α → Bool} (hg : ∀ a b, ∃ x, g a b = some x ∧ (x < 0 ↔ lt a b = true))
    (irr : ∀ a, lt a a = false) (tr : ∀ a b c, lt a b = true → lt b c = true → lt a c = true) (nt : ∀ a b c, lt a b = false → lt b c = false → lt a c = false)
    {l s : List α} (hs : s.Pairwise fun a b => lt a b = true) (hp : s.Perm l) (hl : l.length < 4611686018427387904) : sortBy l g = some s := by
  have hlt : ∀ a b, ltG g a b = lt a b := fun a b => by
    obtain ⟨x, h1, h2⟩ := hg a b
    unfold ltG
    rw [h1, Bool.eq_iff_iff, decide_eq_true_eq]
    exact h2
  have e : ltG g = lt := funext fun a => funext fun b => hlt a b
  obtain ⟨r, hr⟩ := sortBy_some (l := l) (g := g) (fun a b h => by obtain ⟨x, h1, _⟩ := hg a b; rw [h1] at h; cases h) (by rw [e]; exact ⟨irr, tr, nt⟩) hl
  obtain ⟨h1, h2⟩ := sortBy_spec hr
  have hrs : r = s := by
    refine List.Perm.eq_of_pairwise (le := fun a b => lt b a = false) ?_ ?_ ?_ (h1.trans hp.symm)
    · intro a b ha hb hab hba
      have ha' : a ∈ s := hp.mem_iff.mpr (h1.mem_iff.mp ha)
      have key : ∀ {t : List α}, t.Pairwise (fun a b => lt a b = true) → a ∈ t → b ∈ t → a = b := by
        intro t ht
        induction ht with
        | nil => intro h; cases h
        | cons hx _ ih =>
          intro m1 m2
          rcases List.mem_cons.mp m1 with e1 | k1
          · rcases List.mem_cons.mp m2 with e2 | k2
            · rw [e1, e2]
            · rw [e1, hx b k2] at hba; cases hba
          · rcases List.mem_cons.mp m2 with e2 | k2
            · rw [e2, hx a k1] at hab; cases hab
            · exact ih k1 k2
      exact key hs ha' hb
    · rw [List.pairwise_iff_getElem]
      intro i j hi hj hij
      rw [← hlt]
      exact h2 i j hi hj hij
    · refine hs.imp fun {a b} h => ?_
      cases h' : lt b a with
      | false => rfl
      | true => rw [← irr a, tr a b a h h']
  rw [hr, hrs]
end Go.Proofs.YthdoebgikbfndaaGreat
end

/- Numbers compared. -/
section
namespace Go.Proofs.YthdoebgikbfndaaGreat
open Go Go.RowKit E
set_option linter.unusedVariables false

theorem cmpInt_eq (x y : Int) : cmp_Compare_int x y = if x < y then -1 else if x > y then 1 else 0 := by
  unfold cmp_Compare_int cmp_isNaN_int
  rw [if_neg (by simp), if_neg (by simp)]
theorem cmpOr_eq (x y z : Int) : cmp_Or_int [x, y, z] = some (if x ≠ 0 then x else if y ≠ 0 then y else z) := by
  unfold cmp_Or_int
  have i0 : ix [x, y, z] (0 : Int) = some x := rfl
  have i1 : ix [x, y, z] (1 : Int) = some y := rfl
  have i2 : ix [x, y, z] (2 : Int) = some z := rfl
  have w0 : W (0 + 1) = 1 := by decide
  have w1 : W (1 + 1) = 2 := by decide
  have w2 : W (2 + 1) = 3 := by decide
  by_cases hx : x ≠ 0
  · rw [loop_end (r := .inr x) (by unfold cmp_Or_int.b0; rw [if_pos (by simp), i0, Option.bind_some, if_pos hx]), if_pos hx]; rfl
  · rw [loop_go (s' := 1) (by unfold cmp_Or_int.b0; rw [if_pos (by simp), i0, Option.bind_some, if_neg hx, w0]), if_neg hx]
    by_cases hy : y ≠ 0
    · rw [loop_end (r := .inr y) (by unfold cmp_Or_int.b0; rw [if_pos (by simp), i1, Option.bind_some, if_pos hy]), if_pos hy]; rfl
    · rw [loop_go (s' := 2) (by unfold cmp_Or_int.b0; rw [if_pos (by simp), i1, Option.bind_some, if_neg hy, w1]), if_neg hy]
      by_cases hz : z ≠ 0
      · rw [loop_end (r := .inr z) (by unfold cmp_Or_int.b0; rw [if_pos (by simp), i2, Option.bind_some, if_pos hz])]; rfl
      · rw [loop_go (s' := 3) (by unfold cmp_Or_int.b0; rw [if_pos (by simp), i2, Option.bind_some, if_neg hz, w2]), loop_end (r := .inl ()) (by unfold cmp_Or_int.b0; rw [if_neg (by simp)])]
        have : z = 0 := by omega
        rw [this]; rfl
end Go.Proofs.YthdoebgikbfndaaGreat
end

/- Edges of many marks sorted. -/
section
namespace Go.Proofs.YthdoebgikbfndaaGreat
open Go Go.RowKit E
set_option linter.unusedVariables false

def gLt (a b : TGEdge) : Bool := decide (a.from_ < b.from_ ∨ (a.from_ = b.from_ ∧ (a.letter < b.letter ∨ (a.letter = b.letter ∧ a.to_ < b.to_))))
theorem cmpG_lt (a b : TGEdge) : ∃ x, impl_compareGEdges a b = some x ∧ (x < 0 ↔ gLt a b = true) := by
  unfold impl_compareGEdges
  rw [cmpOr_eq, Option.bind_some]
  refine ⟨_, rfl, ?_⟩
  rw [cmpInt_eq, cmpInt_eq, cmpInt_eq]
  unfold gLt
  rw [decide_eq_true_eq]
  repeat' split
  all_goals omega
theorem sortG_eq {l s : List TGEdge} (hs : s.Pairwise fun a b => gLt a b = true) (hp : s.Perm l) (hl : l.length < 4611686018427387904) : slices_SortFunc_TGEdge l impl_compareGEdges = some s := by
  unfold slices_SortFunc_TGEdge
  refine sortBy_eq cmpG_lt (fun a => ?_) (fun a b c h1 h2 => ?_) (fun a b c h1 h2 => ?_) hs hp hl
  · unfold gLt; rw [decide_eq_false_iff_not]; omega
  · unfold gLt at *; rw [decide_eq_true_eq] at *; omega
  · unfold gLt at *; rw [decide_eq_false_iff_not] at *; omega
end Go.Proofs.YthdoebgikbfndaaGreat
end

/- Loops over lists, told by what their states stand for. -/
section
namespace Go.Proofs.YthdoebgikbfndaaGreat
open Go Go.RowKit E
set_option linter.unusedVariables false

theorem fold_loopR {α σ τ ρ : Type} [Inhabited α] (r : τ → σ) (o : τ → ρ) (xs : List α) (f : τ → α → τ) (Inv : Nat → τ → Prop) {body : σ × Int → Option ((σ × Int) ⊕ ρ)} (go : ∀ (k : Nat) (st : τ), k < xs.length → Inv k st → body (r st, (k : Int)) = some (.inl (r (f st (xs.getD k default)), ((k + 1 : Nat) : Int))) ∧ Inv (k + 1) (f st (xs.getD k default)))
    (fin : ∀ st, Inv xs.length st → body (r st, (xs.length : Int)) = some (.inr (o st))) (st : τ) (h0 : Inv 0 st) : loop body (r st, 0) = some (o (xs.foldl f st)) ∧ Inv xs.length (xs.foldl f st) := by
  have key : ∀ post pre, xs = pre ++ post → ∀ st, Inv pre.length st → loop body (r st, (pre.length : Int)) = some (o (post.foldl f st)) ∧ Inv xs.length (post.foldl f st) := by
    intro post
    induction post with
    | nil => intro pre h st hi; simp at h; subst h; exact ⟨loop_end (fin st hi), hi⟩
    | cons a post ih =>
      intro pre h st hi
      have hk : pre.length < xs.length := by rw [h]; simp
      have ha : xs.getD pre.length default = a := by rw [h]; simp
      obtain ⟨g1, g2⟩ := go pre.length st hk hi
      rw [ha] at g1 g2
      have e : (((pre.length + 1 : Nat) : Int)) = ((pre ++ [a]).length : Int) := by simp
      rw [loop_go g1, e, List.foldl_cons]
      exact ih (pre ++ [a]) (by rw [h]; simp) _ (by simpa using g2)
  exact key xs [] rfl st h0
/-- A loop over the numbers below one. -/
theorem range_loopR {σ τ ρ : Type} (r : τ → σ) (o : τ → ρ) (n : Nat) (f : τ → Nat → τ) (Inv : Nat → τ → Prop) {body : σ × Int → Option ((σ × Int) ⊕ ρ)} (go : ∀ (k : Nat) (st : τ), k < n → Inv k st → body (r st, (k : Int)) = some (.inl (r (f st k), ((k + 1 : Nat) : Int))) ∧ Inv (k + 1) (f st k))
    (fin : ∀ st, Inv n st → body (r st, (n : Int)) = some (.inr (o st))) (st : τ) (h0 : Inv 0 st) : loop body (r st, 0) = some (o ((List.range n).foldl f st)) ∧ Inv n ((List.range n).foldl f st) := by
  have h := fold_loopR r o (List.range n) f Inv (body := body) (fun k st hk hi => by
    have hk' : k < n := by simpa using hk
    have e : (List.range n).getD k default = k := by simp [List.getD_eq_getElem?_getD, hk']
    rw [e]; exact go k st hk' hi) (fun st hi => by rw [List.length_range] at hi ⊢; exact fin st hi) st h0
  rw [List.length_range] at h
  exact h
/-- Members put into a set, where asked. -/
def setOf (c : Nat → Bool) (n : Nat) : Nat := (List.range n).foldl (fun s k => if c k = true then s ||| 2 ^ k else s) 0
theorem setOf_bit (c : Nat → Bool) (n : Nat) (i : Nat) : (setOf c n).testBit i = (decide (i < n) && c i) := by
  unfold setOf
  induction n with
  | zero => simp
  | succ n ih =>
    rw [List.range_succ, List.foldl_append, List.foldl_cons, List.foldl_nil]
    by_cases h : c n = true
    · rw [if_pos h, Nat.testBit_or, ih, Nat.testBit_two_pow]
      by_cases e : n = i
      · subst e; simp [h]
      · have : decide (i < n + 1) = decide (i < n) := by rw [decide_eq_decide]; omega
        simp [e, this]
    · rw [if_neg h, ih]
      by_cases e : i = n
      · subst e; simp [h]
      · have : decide (i < n + 1) = decide (i < n) := by rw [decide_eq_decide]; omega
        rw [this]
end Go.Proofs.YthdoebgikbfndaaGreat
end

/- Numbers made of three digits. -/
section
namespace Go.Proofs.YthdoebgikbfndaaGreat
open Go Go.RowKit E
set_option linter.unusedVariables false

theorem key_div {S L f l t : Nat} (hl : l < L) (ht : t < S) : ((f * L + l) * S + t) / S / L = f ∧ ((f * L + l) * S + t) / S % L = l ∧ ((f * L + l) * S + t) % S = t := by
  have hS : 0 < S := by omega
  have hL : 0 < L := by omega
  have e1 : ((f * L + l) * S + t) / S = f * L + l := by
    rw [Nat.add_comm, Nat.add_mul_div_right _ _ hS, Nat.div_eq_of_lt ht, Nat.zero_add]
  refine ⟨?_, ?_, ?_⟩
  · rw [e1, Nat.add_comm, Nat.add_mul_div_right _ _ hL, Nat.div_eq_of_lt hl, Nat.zero_add]
  · rw [e1, Nat.add_comm, Nat.add_mul_mod_self_right, Nat.mod_eq_of_lt hl]
  · rw [Nat.add_comm, Nat.add_mul_mod_self_right, Nat.mod_eq_of_lt ht]
theorem key_lt {S L f l t : Nat} (hf : f < S) (hl : l < L) (ht : t < S) : (f * L + l) * S + t < S * L * S := by
  have h1 : f * L + L ≤ S * L := by rw [← Nat.succ_mul]; exact Nat.mul_le_mul_right _ hf
  have h2 : (f * L + l) * S + S ≤ S * L * S := by rw [← Nat.succ_mul]; exact Nat.mul_le_mul_right _ (by omega)
  omega
theorem digit_lt {n q r q' r' : Nat} (hr : r < n) (hr' : r' < n) (h : q * n + r < q' * n + r') : q < q' ∨ q = q' ∧ r < r' := by
  rcases Nat.lt_trichotomy q q' with g | g | g
  · exact .inl g
  · subst g; exact .inr ⟨rfl, by omega⟩
  · have : (q' + 1) * n ≤ q * n := Nat.mul_le_mul_right _ g
    rw [Nat.succ_mul] at this
    omega
theorem qm {S x : Nat} (hS : 1 ≤ S ∧ S ≤ 31) (hx : x ≤ 1000000) : quo .i64 (x : Int) (S : Int) = ((x / S : Nat) : Int) ∧ Int.tmod (x : Int) (S : Int) = ((x % S : Nat) : Int) := by
  have h3 := Nat.div_le_self x S
  refine ⟨?_, rfl⟩
  unfold quo
  rw [show ((x : Int).tdiv (S : Int)) = ((x / S : Nat) : Int) from rfl]
  generalize x / S = d at h3 ⊢
  exact W_eq (by omega) (by omega)
end Go.Proofs.YthdoebgikbfndaaGreat
end

/- The reference's sorting of edges of many marks. -/
section
namespace Go.Proofs.YthdoebgikbfndaaGreat
open Go Go.RowKit E
set_option linter.unusedVariables false

def keyG (S L : Nat) (e : TGEdge) : Nat := (e.from_.toNat * L + e.letter.toNat) * S + e.to_.toNat
structure GE (S L : Nat) (e : TGEdge) : Prop where
  f : 0 ≤ e.from_ ∧ e.from_ < S
  l : 0 ≤ e.letter ∧ e.letter < L
  t : 0 ≤ e.to_ ∧ e.to_ < S
  m : 0 ≤ e.marks ∧ e.marks ≤ 1000
def decG (S L i : Nat) (m : Int) : TGEdge := ⟨((i / S / L : Nat) : Int), ((i / S % L : Nat) : Int), ((i % S : Nat) : Int), m⟩
theorem decG_lt {S L i j : Nat} (hS : 0 < S) (hL : 0 < L) (h : i < j) (m m' : Int) : gLt (decG S L i m) (decG S L j m') = true := by
  have d1 := Nat.div_add_mod i S
  have d2 := Nat.div_add_mod j S
  have d3 := Nat.div_add_mod (i / S) L
  have d4 := Nat.div_add_mod (j / S) L
  have r1 := Nat.mod_lt i hS
  have r2 := Nat.mod_lt j hS
  have r3 := Nat.mod_lt (i / S) hL
  have r4 := Nat.mod_lt (j / S) hL
  rw [Nat.mul_comm] at d1 d2 d3 d4
  have k1 := digit_lt r1 r2 (by rw [d1, d2]; exact h)
  unfold gLt decG
  rw [decide_eq_true_eq]
  rcases k1 with k1 | ⟨k1, k2⟩
  · have k3 := digit_lt r3 r4 (by rw [d3, d4]; exact k1)
    rcases k3 with k3 | ⟨k3, k4⟩
    · left; simp only; omega
    · right; simp only; exact ⟨by omega, by omega⟩
  · right
    simp only
    rw [k1]
    exact ⟨rfl, .inr ⟨rfl, by omega⟩⟩
theorem decG_key {S L : Nat} {e : TGEdge} (h : GE S L e) : decG S L (keyG S L e) e.marks = e := by
  obtain ⟨h1, h2, h3⟩ := key_div (S := S) (L := L) (f := e.from_.toNat) (l := e.letter.toNat) (t := e.to_.toNat) (by have := h.l; omega) (by have := h.t; omega)
  unfold decG keyG
  rw [h1, h2, h3]
  obtain ⟨f, l, t, m⟩ := e
  have a := h.f; have b := h.l; have c := h.t
  simp only at a b c ⊢
  congr 1 <;> omega
theorem keyG_lt {S L : Nat} {e : TGEdge} (h : GE S L e) : keyG S L e < S * L * S := key_lt (by have := h.f; omega) (by have := h.l; omega) (by have := h.t; omega)
theorem key_W {S L : Nat} (hS : S ≤ 31) (hL : L ≤ 8) {e : TGEdge} (h : GE S L e) : W (W (W (W (e.from_ * (L : Int)) + e.letter) * (S : Int)) + e.to_) = ((keyG S L e : Nat) : Int) := by
  obtain ⟨f, l, t, m⟩ := e
  have a := h.f; have b := h.l; have c := h.t
  simp only at a b c ⊢
  unfold keyG
  simp only
  obtain ⟨f, rfl⟩ : ∃ x : Nat, f = x := ⟨f.toNat, by omega⟩
  obtain ⟨l, rfl⟩ : ∃ x : Nat, l = x := ⟨l.toNat, by omega⟩
  obtain ⟨t, rfl⟩ : ∃ x : Nat, t = x := ⟨t.toNat, by omega⟩
  simp only [Int.toNat_natCast]
  have b1 : f * L ≤ 31 * 8 := Nat.mul_le_mul (by omega) hL
  have e1 : (f : Int) * (L : Int) = ((f * L : Nat) : Int) := by push_cast; rfl
  have wn : ∀ x : Nat, x ≤ 1000000 → W (x : Int) = (x : Int) := fun x h => W_eq (by omega) (by omega)
  have e2 : ((f * L : Nat) : Int) + (l : Int) = ((f * L + l : Nat) : Int) := by omega
  have b2 : (f * L + l) * S ≤ 300 * 31 := Nat.mul_le_mul (by omega) hS
  have e3 : ((f * L + l : Nat) : Int) * (S : Int) = (((f * L + l) * S : Nat) : Int) := by push_cast; rfl
  have e4 : (((f * L + l) * S : Nat) : Int) + (t : Int) = (((f * L + l) * S + t : Nat) : Int) := by omega
  rw [e1, wn _ (by omega), e2, wn _ (by omega), e3, wn _ (by omega), e4, wn _ (by omega)]

/-- The table of marks. -/
def putM (S L : Nat) (st : List Int) (e : TGEdge) : List Int := st.set (keyG S L e) (e.marks + 1)
theorem putM_other {S L i : Nat} : ∀ (l : List TGEdge) (st : List Int), (∀ e ∈ l, keyG S L e ≠ i) → (l.foldl (putM S L) st).getD i 0 = st.getD i 0
  | [], _, _ => rfl
  | e :: l, st, h => by
    rw [List.foldl_cons, putM_other l _ fun x hx => h x (List.mem_cons_of_mem _ hx)]
    unfold putM
    simp only [List.getD_eq_getElem?_getD]
    rw [List.getElem?_set_ne (h e List.mem_cons_self)]
theorem putM_mem {S L : Nat} : ∀ (l : List TGEdge) (st : List Int), (l.Pairwise fun a b => keyG S L a ≠ keyG S L b) → ∀ e ∈ l, keyG S L e < st.length → (l.foldl (putM S L) st).getD (keyG S L e) 0 = e.marks + 1
  | x :: l, st, hp, e, he, hk => by
    rw [List.foldl_cons]
    rw [List.pairwise_cons] at hp
    rcases List.mem_cons.mp he with rfl | he
    · rw [putM_other l _ fun y hy => (hp.1 y hy).symm]
      unfold putM
      simp [List.getD_eq_getElem?_getD, hk]
    · exact putM_mem l _ hp.2 e he (by unfold putM; simpa using hk)

/-- What is read off the table. -/
def outM (S L : Nat) (m : List Int) (n : Nat) : List TGEdge := (List.range n).filterMap fun i => if m.getD i 0 > 0 then some (decG S L i (m.getD i 0 - 1)) else none
theorem outM_succ (S L : Nat) (m : List Int) (n : Nat) : outM S L m (n + 1) = outM S L m n ++ (if m.getD n 0 > 0 then [decG S L n (m.getD n 0 - 1)] else []) := by
  unfold outM
  rw [List.range_succ, List.filterMap_append]
  congr 1
  by_cases h : m.getD n 0 > 0
  · rw [if_pos h]; simp only [List.filterMap_cons, List.filterMap_nil]; rw [if_pos h]
  · rw [if_neg h]; simp only [List.filterMap_cons, List.filterMap_nil]; rw [if_neg h]
theorem outM_len (S L : Nat) (m : List Int) (n : Nat) : (outM S L m n).length ≤ n := by
  unfold outM
  refine Nat.le_trans (List.length_filterMap_le _ _) (by simp)
theorem outM_sorted {S L : Nat} (hS : 0 < S) (hL : 0 < L) (m : List Int) (n : Nat) : (outM S L m n).Pairwise fun a b => gLt a b = true := by
  unfold outM
  rw [List.pairwise_filterMap]
  refine List.pairwise_lt_range.imp fun {i j} hij => ?_
  intro a ha b hb
  split at ha
  · split at hb
    · cases ha; cases hb; exact decG_lt hS hL hij _ _
    · cases hb
  · cases ha
theorem gLt_irrefl (a : TGEdge) : gLt a a = false := by unfold gLt; rw [decide_eq_false_iff_not]; omega

theorem l5Sort_eq {g : TGen} {S L : Nat} (hS : g.states = (S : Int)) (hL : g.letters = (L : Int)) (bS : 1 ≤ S ∧ S ≤ 31) (bL : 1 ≤ L ∧ L ≤ 8) (he : ∀ e ∈ g.edges, GE S L e) (hk : g.edges.Pairwise fun a b => keyG S L a ≠ keyG S L b)
    (hl : g.edges.length ≤ 1000000) : ∃ s, spec_l5Sort g = some { g with edges := s } ∧ s.Perm g.edges ∧ s.Pairwise fun a b => gLt a b = true := by
  have bSL : S * L ≤ 31 * 8 := Nat.mul_le_mul bS.2 bL.2
  have bN : S * L * S ≤ 248 * 31 := Nat.mul_le_mul bSL bS.2
  have w1 : W (g.states * g.letters) = ((S * L : Nat) : Int) := by
    rw [hS, hL, show (S : Int) * (L : Int) = ((S * L : Nat) : Int) by push_cast; rfl, W, W_eq (by omega) (by omega)]
  have w2 : W (((S * L : Nat) : Int) * g.states) = ((S * L * S : Nat) : Int) := by
    rw [hS, show ((S * L : Nat) : Int) * (S : Int) = ((S * L * S : Nat) : Int) by push_cast; rfl, W, W_eq (by omega) (by omega)]
  generalize hN : S * L * S = N at *
  have hrep : ∀ i, (List.replicate N (0 : Int)).getD i 0 = 0 := fun i => by
    simp only [List.getD_eq_getElem?_getD, List.getElem?_replicate]
    split <;> rfl
  have hmem : ∀ i, (g.edges.foldl (putM S L) (List.replicate N 0)).getD i 0 > 0 → ∃ e ∈ g.edges, keyG S L e = i ∧ (g.edges.foldl (putM S L) (List.replicate N 0)).getD i 0 = e.marks + 1 := fun i hi => by
    by_cases c : ∀ e ∈ g.edges, keyG S L e ≠ i
    · rw [putM_other _ _ c, hrep] at hi; omega
    · obtain ⟨e, c⟩ := Classical.not_forall.mp c
      obtain ⟨c1, c2⟩ := Classical.not_imp.mp c
      have c2 := Classical.not_not.mp c2
      refine ⟨e, c1, c2, ?_⟩
      rw [← c2]
      exact putM_mem _ _ hk e c1 (by have := keyG_lt (he e c1); simp; omega)
  refine ⟨outM S L (g.edges.foldl (putM S L) (List.replicate N 0)) N, ?_, ?_, outM_sorted (by omega) (by omega) _ _⟩
  · unfold spec_l5Sort
    rw [w1, w2, mk_ok (by omega) (by omega), Option.bind_some, Int.toNat_natCast]
    have h1 := fold_loopR (ρ := List Int) (fun x : List Int => x) (fun x => x) g.edges (putM S L) (fun _ st => st.length = N) (body := fun s : List Int × Int => spec_l5Sort.b1 g s.1 s.2) (fun k st hk hi => by
      have hm := he _ (List.getElem_mem hk)
      have hd : g.edges.getD k default = g.edges[k] := by simp [List.getD_eq_getElem?_getD, hk]
      refine ⟨?_, by unfold putM; simpa using hi⟩
      dsimp only
      unfold spec_l5Sort.b1
      rw [if_pos (by omega), ix_nat hk, Option.bind_some, hd, hL, hS, key_W bS.2 bL.2 hm, ck_nat (by have := keyG_lt hm; omega), Option.bind_some]
      have w3 : W (g.edges[k].marks + 1) = g.edges[k].marks + 1 := W_eq (by have := hm.m; omega) (by have := hm.m; omega)
      rw [w3, WN (by omega)]
      rfl) (fun st hi => by dsimp only; unfold spec_l5Sort.b1; rw [if_neg (by omega)]) (List.replicate N 0) (by simp)
    rw [h1.1, Option.bind_some]
    have hml := h1.2
    clear h1
    generalize g.edges.foldl (putM S L) (List.replicate N 0) = m at hml hmem ⊢
    unfold spec_l5Sort.k0
    have h2 := loop_up (body := fun s : List TGEdge × Int => spec_l5Sort.b0 m g s.1 s.2) N (fun k => (outM S L m k, (k : Int))) (outM S L m N) (fun k hk => by
      dsimp only
      unfold spec_l5Sort.b0
      have hdf : m.getD k default = m.getD k 0 := rfl
      have hkm : k < m.length := by omega
      have q1 := qm (S := S) (x := k) bS (by omega)
      have q2 := qm (S := L) (x := k / S) (by omega) (by have := Nat.div_le_self k S; omega)
      rw [if_pos (by omega), ix_nat hkm, Option.bind_some, hdf, outM_succ]
      by_cases c : m.getD k 0 > 0
      · rw [if_pos c, if_pos c, hS, hL, decide_eq_true (by omega), decide_eq_true (by omega), chk_t]
        simp only [Option.bind_some]
        rw [q1.1, q2.1, q2.2, q1.2,
          app_small (by have := outM_len S L m k; simp; omega) (by omega), Option.bind_some, WN (by omega)]
        have w4 : W (m.getD k 0 - 1) = m.getD k 0 - 1 := by
          obtain ⟨e, e1, _, e2⟩ := hmem k c
          have := (he e e1).m
          rw [e2]; exact W_eq (by omega) (by omega)
        rw [w4]; rfl
      · rw [if_neg c, if_neg c, List.append_nil, WN (by omega)]) (by
      dsimp only; unfold spec_l5Sort.b0; rw [if_neg (by omega)]) 0 (Nat.zero_le _)
    have h3 : loop (fun s : List TGEdge × Int => spec_l5Sort.b0 m g s.1 s.2) ([], 0) = some (outM S L m N) := h2
    rw [h3]; rfl
  · rw [List.perm_ext_iff_of_nodup]
    · intro e
      unfold outM
      rw [List.mem_filterMap]
      constructor
      · rintro ⟨i, hi, h⟩
        split at h
        · rename_i c
          cases h
          obtain ⟨e, e1, e2, e3⟩ := hmem i c
          rw [e3, ← e2, show e.marks + 1 - 1 = e.marks by omega, decG_key (he e e1)]
          exact e1
        · cases h
      · intro h
        have h1 := keyG_lt (he e h)
        have h2 := putM_mem g.edges (List.replicate N 0) hk e h (by simp; omega)
        refine ⟨keyG S L e, by simp; omega, ?_⟩
        rw [h2, if_pos (by have := (he e h).m; omega), show e.marks + 1 - 1 = e.marks by omega, decG_key (he e h)]
    · refine (outM_sorted (by omega) (by omega) _ _).imp fun {a b} h => ?_
      rintro rfl
      rw [gLt_irrefl] at h; cases h
    · exact hk.imp fun {a b} h => by rintro rfl; exact h rfl
end Go.Proofs.YthdoebgikbfndaaGreat
end

/- The automaton of a formula: both sides come to the same. -/
section
namespace Go.Proofs.YthdoebgikbfndaaGreat
open Go Go.RowKit E
set_option linter.unusedVariables false
set_option linter.unusedSectionVars false

theorem specTemp_eq (e : List TNode) : spec_LtlTemporal e = some (if treeOk ltP e = true then tempL 0 e else []) := by
  unfold spec_LtlTemporal
  rw [specLtlOk_eq, Option.bind_some]
  by_cases h : treeOk ltP e = true
  · have hn := (treeOk_nodes h).2.1
    rw [if_neg (by rw [h]; simp), if_pos h]
    unfold spec_l8Temporal
    have := temp_loop (body := fun s : List Int × Int => spec_l8Temporal.b0 e s.1 s.2) e hn (fun y x => rfl) e [] [] rfl (by simp)
    have h2 : loop (fun s : List Int × Int => spec_l8Temporal.b0 e s.1 s.2) ([], 0) = some (tempL 0 e) := this
    rw [h2]; rfl
  · rw [if_pos (by simpa using h), if_neg h]
def belowB (e : List TNode) (p : Int) : Bool := (List.range e.length).all fun k => !(decide ((e.getD k default).kind = 3) && decide ((e.getD k default).a ≥ p))
theorem l10Props_eq (e : List TNode) (p : Int) (he : e.length ≤ 31) : spec_l10Props e p = some (belowB e p) := by
  unfold spec_l10Props
  have h := all_loop (body := fun s : Int => spec_l10Props.b0 e p s) e.length (fun k => !(decide ((e.getD k default).kind = 3) && decide ((e.getD k default).a ≥ p))) (fun k hk => by
    unfold spec_l10Props.b0
    simp only [ix_nat hk, Option.bind_some, bnd_eq, WN (k := k) (by omega)]
    rw [if_pos (by omega)]
    by_cases c : (e.getD k default).kind = 3
    · rw [decide_eq_true c, whenO_t, Option.bind_some, Bool.true_and]
      by_cases d : (e.getD k default).a ≥ p
      · rw [if_pos (decide_eq_true d), decide_eq_true d]; rfl
      · rw [if_neg (by simpa using d), decide_eq_false d]; rfl
    · rw [decide_eq_false c, whenO_f, Option.bind_some]; rfl) (by unfold spec_l10Props.b0; rw [if_neg (by omega)])
  rw [h]
  unfold belowB
  split
  · rename_i c; rw [c]; rfl
  · rename_i c; rw [Bool.not_eq_true] at c; rw [c]; rfl
theorem isBelow_eq (e : List TNode) (p : Int) (he : e.length ≤ 31) : impl_isBelow e p = some (belowB e p) := by
  unfold impl_isBelow
  have h := all_loop (body := fun s : Int => impl_isBelow.b0 e p s) e.length (fun k => !(decide ((e.getD k default).kind = 3) && decide ((e.getD k default).a ≥ p))) (fun k hk => by
    unfold impl_isBelow.b0
    simp only [ix_nat hk, Option.bind_some, bnd_eq, WN (k := k) (by omega)]
    rw [if_pos (by omega)]
    cases (decide ((e.getD k default).kind = 3) && decide ((e.getD k default).a ≥ p)) <;> rfl) (by unfold impl_isBelow.b0; rw [if_neg (by omega)])
  rw [h]
  unfold belowB
  split
  · rename_i c; rw [c]; rfl
  · rename_i c; rw [Bool.not_eq_true] at c; rw [c]; rfl

/-- What is so at a step. -/
def gSo (e : List TNode) (x c : Nat) : List Bool := stL x c e [] 0
def gM (e : List TNode) (x c : Nat) : Nat := bitsF (mrkV e (gSo e x c)) (tempL 0 e) 0 0
def gT (e : List TNode) (x c : Nat) : Nat := bitsF (nowV e (gSo e x c)) (tempL 0 e) 0 0
def gE0 (e : List TNode) (x c : Nat) : TGEdge := ⟨0, (x : Int), ((1 + c : Nat) : Int), (gM e x c : Nat)⟩
def gE1 (e : List TNode) (x c : Nat) : TGEdge := ⟨((1 + gT e x c : Nat) : Int), (x : Int), ((1 + c : Nat) : Int), (gM e x c : Nat)⟩
def gFin (e : List TNode) (x c : Nat) : Bool := (gSo e x c).getD (e.length - 1) default
def specRow (e : List TNode) (x c : Nat) : List TGEdge := (if gFin e x c = true then [gE0 e x c] else []) ++ [gE1 e x c]
def implRow (e : List TNode) (x c : Nat) : List TGEdge := gE1 e x c :: (if gFin e x c = true then [gE0 e x c] else [])
def rowsU (f : Nat → List TGEdge) (n : Nat) : List TGEdge := (List.range n).flatMap f
theorem rowsU_succ (f : Nat → List TGEdge) (n : Nat) : rowsU f (n + 1) = rowsU f n ++ f n := by
  unfold rowsU
  rw [List.range_succ, List.flatMap_append]; simp
theorem rowsU_len {f : Nat → List TGEdge} {K : Nat} (h : ∀ i, (f i).length ≤ K) : ∀ n, (rowsU f n).length ≤ n * K
  | 0 => by simp [rowsU]
  | n + 1 => by
    have := rowsU_len h n
    rw [rowsU_succ, List.length_append, Nat.succ_mul]
    have := h n
    omega
theorem specRow_len (e : List TNode) (x c : Nat) : (specRow e x c).length ≤ 2 := by unfold specRow; split <;> simp
theorem implRow_len (e : List TNode) (x c : Nat) : (implRow e x c).length ≤ 2 := by unfold implRow; split <;> simp
theorem rows_len {f : Nat → Nat → List TGEdge} (h : ∀ x c, (f x c).length ≤ 2) {C : Nat} (hC : C ≤ 8) (n : Nat) : (rowsU (fun x => rowsU (f x) C) n).length ≤ n * 16 :=
  rowsU_len (fun x => Nat.le_trans (rowsU_len (h x) C) (by omega)) n

section
variable {e : List TNode} (he : Nodes ltP e) {n : Nat} (hn : (tempL 0 e).length = n) (h3 : n ≤ 3)
include he hn h3
theorem pow8 : 2 ^ n ≤ 8 := Nat.le_trans (Nat.pow_le_pow_right (by omega) h3) (by decide)
theorem gSo_len (x c : Nat) : (gSo e x c).length = e.length := by unfold gSo; rw [stL_len]; simp
theorem gT_lt (x c : Nat) : gT e x c < 2 ^ n := by
  have := bitsF_lt (nowV e (gSo e x c)) (tempL 0 e) 0 0 (by simp)
  rw [hn, Nat.zero_add] at this
  exact this
theorem gM_lt (x c : Nat) : gM e x c < 2 ^ n := by
  have := bitsF_lt (mrkV e (gSo e x c)) (tempL 0 e) 0 0 (by simp)
  rw [hn, Nat.zero_add] at this
  exact this
theorem fin_ix (x c : Nat) : ix (gSo e x c) (W ((e.length : Int) - 1)) = some (gFin e x c) := by
  have h1 := he.1
  have h2 := he.2.1
  have w : W ((e.length : Int) - 1) = ((e.length - 1 : Nat) : Int) := by rw [W, W_eq (by omega) (by omega)]; omega
  rw [w, ix_nat (by rw [gSo_len he hn h3]; omega)]; rfl

theorem spec_inner {x : Nat} (hx : x ≤ 7) (a b c d : Int) (acc : List TGEdge) (ha : acc.length ≤ 1000) : loop (fun s : Int × Int × Int × Int × List TGEdge × Int => spec_LtlGen.b1 (tempL 0 e) e (x : Int) s.1 s.2.1 s.2.2.1 s.2.2.2.1 s.2.2.2.2.1 s.2.2.2.2.2) (a, b, c, d, acc, 0)
    = some (a, b, c, d, acc ++ rowsU (specRow e x) (2 ^ n)) := by
  have p8 := pow8 he hn h3
  have hs : shl .i64 1 (((tempL 0 e).length : Nat) : Int) = ((2 ^ n : Nat) : Int) := by rw [hn]; exact shl1_i (by omega)
  have h := loop_up (body := fun s : Int × Int × Int × Int × List TGEdge × Int => spec_LtlGen.b1 (tempL 0 e) e (x : Int) s.1 s.2.1 s.2.2.1 s.2.2.2.1 s.2.2.2.2.1 s.2.2.2.2.2) (2 ^ n) (fun k => (a, b, c, d, acc ++ rowsU (specRow e x) k, (k : Int))) (a, b, c, d, acc ++ rowsU (specRow e x) (2 ^ n)) (fun k hk => by
      have hT := gT_lt he hn h3 x k
      have hL := rowsU_len (specRow_len e x) k
      have w1 : W (1 + ((gT e x k : Nat) : Int)) = ((1 + gT e x k : Nat) : Int) := by rw [W, W_eq (by omega) (by omega)]; omega
      have w2 : W (1 + (k : Int)) = ((1 + k : Nat) : Int) := by rw [W, W_eq (by omega) (by omega)]; omega
      have w3 : W ((k : Int) + 1) = ((k + 1 : Nat) : Int) := WN (by omega)
      have s1 := l9Step_eq he (l := x) (s := k) hx (by have : (2 : Nat) ^ 31 = 2147483648 := rfl; omega)
      have s2 := l10Bits_eq (gSo_len he hn h3 x k) (ts := tempL 0 e) (by omega) (tempL_tm he)
      have s3 := fin_ix he hn h3 x k
      dsimp only
      unfold spec_LtlGen.b1
      rw [decide_eq_true (by omega), chk_t, Option.bind_some, hs, if_pos (by omega), s1, Option.bind_some]
      change (spec_l10Bits e (tempL 0 e) (gSo e x k)).bind _ = _
      rw [s2, Option.bind_some]
      change ((ix (gSo e x k) (W ((e.length : Int) - 1))).bind _) = _
      rw [s3, Option.bind_some, rowsU_succ]
      unfold spec_LtlGen.k2
      rw [w2, w3, show specRow e x k = (if gFin e x k = true then [gE0 e x k] else []) ++ [gE1 e x k] from rfl]
      change (if gFin e x k = true then (app 32 _ [gE0 e x k]).bind _ else _) = _
      have w1' : W (1 + (((bitsF (nowV e (gSo e x k)) (tempL 0 e) 0 0 : Nat) : Int), ((bitsF (mrkV e (gSo e x k)) (tempL 0 e) 0 0 : Nat) : Int)).1) = ((1 + gT e x k : Nat) : Int) := w1
      by_cases g : gFin e x k = true
      · rw [if_pos g, if_pos g, app_small (by simp; omega) (by omega), Option.bind_some, w1', app_small (by simp; omega) (by omega), Option.bind_some, List.append_assoc, List.append_assoc]
        rfl
      · rw [if_neg g, if_neg g, w1', app_small (by simp; omega) (by omega), Option.bind_some, List.append_assoc]
        rfl) (by dsimp only; unfold spec_LtlGen.b1; rw [decide_eq_true (by omega), chk_t, Option.bind_some, hs, if_neg (by omega)]) 0 (Nat.zero_le _)
  have e0 : acc ++ rowsU (specRow e x) 0 = acc := by simp [rowsU]
  rw [e0] at h
  exact h
theorem impl_inner {x : Nat} (hx : x ≤ 7) (a b c d : Int) (acc : List TGEdge) (ha : acc.length ≤ 1000) : loop (fun s : Int × Int × Int × Int × List TGEdge × Int => impl_LtlGen.b1 (tempL 0 e) e (x : Int) s.1 s.2.1 s.2.2.1 s.2.2.2.1 s.2.2.2.2.1 s.2.2.2.2.2) (a, b, c, d, acc, 0)
    = some (a, b, c, d, acc ++ rowsU (implRow e x) (2 ^ n)) := by
  have p8 := pow8 he hn h3
  have hs : impl_only (((tempL 0 e).length : Nat) : Int) = ((2 ^ n : Nat) : Int) := by rw [hn]; exact only_eq (by omega)
  have h := loop_up (body := fun s : Int × Int × Int × Int × List TGEdge × Int => impl_LtlGen.b1 (tempL 0 e) e (x : Int) s.1 s.2.1 s.2.2.1 s.2.2.2.1 s.2.2.2.2.1 s.2.2.2.2.2) (2 ^ n) (fun k => (a, b, c, d, acc ++ rowsU (implRow e x) k, (k : Int))) (a, b, c, d, acc ++ rowsU (implRow e x) (2 ^ n)) (fun k hk => by
      have hT := gT_lt he hn h3 x k
      have hL := rowsU_len (implRow_len e x) k
      have w1 : W (1 + ((gT e x k : Nat) : Int)) = ((1 + gT e x k : Nat) : Int) := by rw [W, W_eq (by omega) (by omega)]; omega
      have w2 : W (1 + (k : Int)) = ((1 + k : Nat) : Int) := by rw [W, W_eq (by omega) (by omega)]; omega
      have w3 : W ((k : Int) + 1) = ((k + 1 : Nat) : Int) := WN (by omega)
      have s1 := stepOf_eq he (l := x) (s := k) hx (by have : (2 : Nat) ^ 31 = 2147483648 := rfl; omega)
      have s2 := toldBy_eq (gSo_len he hn h3 x k) (ts := tempL 0 e) (by omega) (tempL_tm he)
      have s4 := marksOf_eq (gSo_len he hn h3 x k) (ts := tempL 0 e) (by omega) (tempL_tm he)
      have s3 := fin_ix he hn h3 x k
      dsimp only
      unfold impl_LtlGen.b1
      rw [hs, if_pos (by omega), s1, Option.bind_some]
      change (impl_toldBy e (tempL 0 e) (gSo e x k)).bind _ = _
      rw [s2, Option.bind_some]
      change (impl_marksOf e (tempL 0 e) (gSo e x k)).bind _ = _
      rw [s4, Option.bind_some]
      have w1' : W (1 + ((bitsF (nowV e (gSo e x k)) (tempL 0 e) 0 0 : Nat) : Int)) = ((1 + gT e x k : Nat) : Int) := w1
      rw [w1', w2, w3, app_small (by simp; omega) (by omega), Option.bind_some]
      change ((ix (gSo e x k) (W ((e.length : Int) - 1))).bind _) = _
      rw [s3, Option.bind_some, rowsU_succ, show implRow e x k = [gE1 e x k] ++ (if gFin e x k = true then [gE0 e x k] else []) from rfl]
      by_cases g : gFin e x k = true
      · rw [if_pos g, if_pos g, app_small (by simp; omega) (by omega), Option.bind_some, List.append_assoc, List.append_assoc]
        rfl
      · rw [if_neg g, if_neg g, List.append_nil, List.append_assoc]
        rfl) (by dsimp only; unfold impl_LtlGen.b1; rw [hs, if_neg (by omega)]) 0 (Nat.zero_le _)
  have e0 : acc ++ rowsU (implRow e x) 0 = acc := by simp [rowsU]
  rw [e0] at h
  exact h
theorem spec_outer {X : Nat} (hX : X ≤ 8) (b c d : Int) : loop (fun s : Int × Int × Int × Int × List TGEdge × Int => spec_LtlGen.b0 (tempL 0 e) e s.1 s.2.1 s.2.2.1 s.2.2.2.1 s.2.2.2.2.1 s.2.2.2.2.2) ((X : Int), b, c, d, [], 0)
    = some ((X : Int), b, c, d, rowsU (fun x => rowsU (specRow e x) (2 ^ n)) X) := by
  have p8 := pow8 he hn h3
  have h := loop_up (body := fun s : Int × Int × Int × Int × List TGEdge × Int => spec_LtlGen.b0 (tempL 0 e) e s.1 s.2.1 s.2.2.1 s.2.2.2.1 s.2.2.2.2.1 s.2.2.2.2.2) X (fun k => ((X : Int), b, c, d, rowsU (fun x => rowsU (specRow e x) (2 ^ n)) k, (k : Int))) ((X : Int), b, c, d, rowsU (fun x => rowsU (specRow e x) (2 ^ n)) X) (fun k hk => by
      have hL := rows_len (specRow_len e) p8 k
      dsimp only
      unfold spec_LtlGen.b0
      rw [if_pos (by omega), spec_inner he hn h3 (by omega) _ _ _ _ _ (by omega), Option.bind_some, rowsU_succ]
      unfold spec_LtlGen.k1
      rw [WN (by omega)]) (by dsimp only; unfold spec_LtlGen.b0; rw [if_neg (by omega)]) 0 (Nat.zero_le _)
  exact h
theorem impl_outer {X : Nat} (hX : X ≤ 8) {p1 : Int} (hp : impl_only p1 = (X : Int)) (a b c d : Int) : loop (fun s : Int × Int × Int × Int × List TGEdge × Int => impl_LtlGen.b0 p1 (tempL 0 e) e s.1 s.2.1 s.2.2.1 s.2.2.2.1 s.2.2.2.2.1 s.2.2.2.2.2) (a, b, c, d, [], 0)
    = some (a, b, c, d, rowsU (fun x => rowsU (implRow e x) (2 ^ n)) X) := by
  have p8 := pow8 he hn h3
  have h := loop_up (body := fun s : Int × Int × Int × Int × List TGEdge × Int => impl_LtlGen.b0 p1 (tempL 0 e) e s.1 s.2.1 s.2.2.1 s.2.2.2.1 s.2.2.2.2.1 s.2.2.2.2.2) X (fun k => (a, b, c, d, rowsU (fun x => rowsU (implRow e x) (2 ^ n)) k, (k : Int))) (a, b, c, d, rowsU (fun x => rowsU (implRow e x) (2 ^ n)) X) (fun k hk => by
      have hL := rows_len (implRow_len e) p8 k
      dsimp only
      unfold impl_LtlGen.b0
      rw [hp, if_pos (by omega), impl_inner he hn h3 (by omega) _ _ _ _ _ (by omega), Option.bind_some, rowsU_succ]
      unfold impl_LtlGen.k1
      rw [WN (by omega)]) (by dsimp only; unfold impl_LtlGen.b0; rw [hp, if_neg (by omega)]) 0 (Nat.zero_le _)
  exact h
theorem rows_perm (X : Nat) : (rowsU (fun x => rowsU (specRow e x) (2 ^ n)) X).Perm (rowsU (fun x => rowsU (implRow e x) (2 ^ n)) X) := by
  have one : ∀ x c, (specRow e x c).Perm (implRow e x c) := fun x c => by
    unfold specRow implRow
    exact List.perm_append_comm
  have inner : ∀ x m, (rowsU (specRow e x) m).Perm (rowsU (implRow e x) m) := fun x m => by
    induction m with
    | zero => exact .refl _
    | succ m ih => rw [rowsU_succ, rowsU_succ]; exact ih.append (one x m)
  induction X with
  | zero => exact .refl _
  | succ m ih => rw [rowsU_succ, rowsU_succ]; exact ih.append (inner m _)
theorem rows_ge (X : Nat) : ∀ g ∈ rowsU (fun x => rowsU (specRow e x) (2 ^ n)) X, GE (1 + 2 ^ n) X g := by
  have p8 := pow8 he hn h3
  intro g hg
  unfold rowsU at hg
  obtain ⟨x, hx, hg⟩ := List.mem_flatMap.mp hg
  obtain ⟨c, hc, hg⟩ := List.mem_flatMap.mp hg
  rw [List.mem_range] at hx hc
  have hT := gT_lt he hn h3 x c
  have hM := gM_lt he hn h3 x c
  unfold specRow at hg
  rcases List.mem_append.mp hg with hg | hg
  · split at hg
    · rw [List.mem_singleton] at hg; subst hg
      unfold gE0
      exact ⟨by simp only; omega, by simp only; omega, by simp only; omega, by simp only; omega⟩
    · cases hg
  · rw [List.mem_singleton] at hg; subst hg
    unfold gE1
    exact ⟨by simp only; omega, by simp only; omega, by simp only; omega, by simp only; omega⟩
theorem rows_key (X : Nat) : (rowsU (fun x => rowsU (specRow e x) (2 ^ n)) X).Pairwise fun a b => ¬ (a.from_ = b.from_ ∧ a.letter = b.letter ∧ a.to_ = b.to_) := by
  have hmem : ∀ x c, ∀ g ∈ specRow e x c, g.letter = (x : Int) ∧ g.to_ = ((1 + c : Nat) : Int) := fun x c g hg => by
    unfold specRow at hg
    rcases List.mem_append.mp hg with hg | hg
    · split at hg
      · rw [List.mem_singleton] at hg; subst hg; exact ⟨rfl, rfl⟩
      · cases hg
    · rw [List.mem_singleton] at hg; subst hg; exact ⟨rfl, rfl⟩
  have hmem2 : ∀ x m, ∀ g ∈ rowsU (specRow e x) m, g.letter = (x : Int) ∧ ∃ c, c < m ∧ g.to_ = ((1 + c : Nat) : Int) := fun x m g hg => by
    obtain ⟨c, hc, hg⟩ := List.mem_flatMap.mp hg
    exact ⟨(hmem x c g hg).1, c, List.mem_range.mp hc, (hmem x c g hg).2⟩
  have one : ∀ x c, (specRow e x c).Pairwise fun a b => ¬ (a.from_ = b.from_ ∧ a.letter = b.letter ∧ a.to_ = b.to_) := fun x c => by
    unfold specRow
    split
    · simp only [List.singleton_append, List.pairwise_cons, List.mem_singleton, forall_eq, List.not_mem_nil, false_imp_iff, implies_true, List.Pairwise.nil, and_true]
      unfold gE0 gE1
      simp only
      omega
    · simp
  have inner : ∀ x m, (rowsU (specRow e x) m).Pairwise fun a b => ¬ (a.from_ = b.from_ ∧ a.letter = b.letter ∧ a.to_ = b.to_) := fun x m => by
    induction m with
    | zero => exact .nil
    | succ m ih =>
      rw [rowsU_succ, List.pairwise_append]
      refine ⟨ih, one x m, fun a ha b hb => ?_⟩
      obtain ⟨_, c, hc, h1⟩ := hmem2 x m a ha
      have h2 := (hmem x m b hb).2
      omega
  induction X with
  | zero => exact .nil
  | succ m ih =>
    rw [rowsU_succ, List.pairwise_append]
    refine ⟨ih, inner m _, fun a ha b hb => ?_⟩
    obtain ⟨x, hx, ha⟩ := List.mem_flatMap.mp ha
    rw [List.mem_range] at hx
    have h1 := (hmem2 x _ a ha).1
    have h2 := (hmem2 m _ b hb).1
    omega
end
theorem key_ne {S L : Nat} {a b : TGEdge} (ha : GE S L a) (hb : GE S L b) (h : ¬ (a.from_ = b.from_ ∧ a.letter = b.letter ∧ a.to_ = b.to_)) : keyG S L a ≠ keyG S L b := fun hk => by
  have h1 := decG_key ha
  have h2 := decG_key hb
  rw [hk] at h1
  have a1 : a.from_ = b.from_ := by
    have q1 : (decG S L (keyG S L b) a.marks).from_ = a.from_ := congrArg TGEdge.from_ h1
    have q2 : (decG S L (keyG S L b) b.marks).from_ = b.from_ := congrArg TGEdge.from_ h2
    exact q1.symm.trans q2
  have a2 : a.letter = b.letter := by
    have q1 : (decG S L (keyG S L b) a.marks).letter = a.letter := congrArg TGEdge.letter h1
    have q2 : (decG S L (keyG S L b) b.marks).letter = b.letter := congrArg TGEdge.letter h2
    exact q1.symm.trans q2
  have a3 : a.to_ = b.to_ := by
    have q1 : (decG S L (keyG S L b) a.marks).to_ = a.to_ := congrArg TGEdge.to_ h1
    have q2 : (decG S L (keyG S L b) b.marks).to_ = b.to_ := congrArg TGEdge.to_ h2
    exact q1.symm.trans q2
  exact h ⟨a1, a2, a3⟩

/-- Both sides come to the same. -/
theorem ltlGen_eq (e : List TNode) (p : Int) : ∃ r : TGen × Bool, spec_LtlGen e p = some r ∧ impl_LtlGen e p = some r ∧ r.1.edges.length ≤ 1000 ∧ (r.2 = true → 1 ≤ r.1.states) := by
  by_cases ok : treeOk ltP e = true
  · have hn := treeOk_nodes ok
    have h31 := hn.2.1
    by_cases hp : 0 ≤ p ∧ p ≤ 3
    · by_cases hb : belowB e p = true
      · by_cases h3 : (tempL 0 e).length ≤ 3
        · obtain ⟨P, rfl⟩ : ∃ P : Nat, p = P := ⟨p.toNat, by omega⟩
          have pP : 2 ^ P ≤ 8 := Nat.le_trans (Nat.pow_le_pow_right (by omega) (by omega : P ≤ 3)) (by decide)
          have pp : 1 ≤ 2 ^ P := Nat.one_le_two_pow
          generalize hq : (tempL 0 e).length = n at *
          have pn : 2 ^ n ≤ 8 := pow8 hn hq h3
          have p1 : 1 ≤ 2 ^ n := Nat.one_le_two_pow
          have hs1 : shl .i64 1 (P : Int) = ((2 ^ P : Nat) : Int) := shl1_i (by omega)
          have ho1 : impl_only (P : Int) = ((2 ^ P : Nat) : Int) := only_eq (by omega)
          have hs2 : shl .i64 1 (n : Int) = ((2 ^ n : Nat) : Int) := shl1_i (by omega)
          have ho2 : impl_only (n : Int) = ((2 ^ n : Nat) : Int) := only_eq (by omega)
          have w1 : W (1 + ((2 ^ n : Nat) : Int)) = ((1 + 2 ^ n : Nat) : Int) := by
            generalize 2 ^ n = y at pn ⊢
            rw [W, W_eq (by omega) (by omega)]; omega
          have hge := rows_ge hn hq h3 (2 ^ P)
          have hky := rows_key hn hq h3 (2 ^ P)
          have hlen := rows_len (specRow_len e) pn (2 ^ P)
          have hlen2 := rows_len (implRow_len e) pn (2 ^ P)
          have hso := spec_outer hn hq h3 pP ((1 + 2 ^ n : Nat) : Int) 1 (n : Int)
          have hio := impl_outer hn hq h3 pP ho1 ((2 ^ P : Nat) : Int) ((1 + 2 ^ n : Nat) : Int) 1 (n : Int)
          have hpe := rows_perm hn hq h3 (2 ^ P)
          generalize rowsU (fun x => rowsU (specRow e x) (2 ^ n)) (2 ^ P) = es at *
          generalize rowsU (fun x => rowsU (implRow e x) (2 ^ n)) (2 ^ P) = ei at *
          obtain ⟨s, s1, s2, s3⟩ := l5Sort_eq (g := ⟨((2 ^ P : Nat) : Int), ((1 + 2 ^ n : Nat) : Int), 1, (n : Int), es⟩) (S := 1 + 2 ^ n) (L := 2 ^ P) rfl rfl (by omega) (by omega) hge
            (hky.imp_of_mem fun {a b} ha hb h => key_ne (hge a ha) (hge b hb) h) (by simp only; omega)
          have hsort := sortG_eq s3 (s2.trans hpe) (by omega)
          refine ⟨(⟨((2 ^ P : Nat) : Int), ((1 + 2 ^ n : Nat) : Int), 1, (n : Int), s⟩, true), ?_, ?_, by have := s2.length_eq; simp only at this ⊢; omega, fun _ => by simp only; omega⟩
          · unfold spec_LtlGen
            simp only [specTemp_eq, specLtlOk_eq, ok, if_true, Option.bind_some, bnd_eq, hq, l1Rg]
            rw [decide_eq_false (by omega), decide_eq_true (by omega), decide_eq_true (by omega), decide_eq_true (by omega)]
            simp only [Bool.not_true, Bool.or_self, Bool.not_false, whenO_t, l10Props_eq e _ h31, hb, Option.bind_some, chk_t]
            rw [if_neg (by simp), hs1, hs2, w1]
            rw [hso, Option.bind_some]
            unfold spec_LtlGen.k0
            rw [s1]; rfl
          · unfold impl_LtlGen
            simp only [implLtlOk_eq, ok, Option.bind_some, bnd_eq]
            rw [show impl_isProps (P : Int) = true from by unfold impl_isProps; rw [inRg]; exact decide_eq_true hp]
            simp only [Bool.not_true, Bool.or_self, Bool.not_false, whenO_t, isBelow_eq e _ h31, hb, Option.bind_some]
            rw [if_neg (by simp), temporal_eq h31, Option.bind_some, hq, if_neg (by omega), ho2, w1, ho1]
            rw [hio, Option.bind_some]
            unfold impl_LtlGen.k0
            rw [hsort]; rfl
        · refine ⟨(⟨0, 0, 0, 0, []⟩, false), ?_, ?_, by simp, fun h => by cases h⟩
          · unfold spec_LtlGen
            simp only [specTemp_eq, specLtlOk_eq, ok, if_true, Option.bind_some, bnd_eq]
            rw [decide_eq_true (by omega)]
            simp only [Bool.or_true, Bool.true_or, Bool.not_true, whenO_f, Option.bind_some]
            rfl
          · unfold impl_LtlGen
            simp only [implLtlOk_eq, ok, Option.bind_some, bnd_eq]
            rw [show impl_isProps p = true from by unfold impl_isProps; rw [inRg]; exact decide_eq_true hp]
            simp only [Bool.not_true, Bool.or_self, Bool.not_false, whenO_t, isBelow_eq e _ h31, hb, Option.bind_some]
            rw [if_neg (by simp), temporal_eq h31, Option.bind_some, if_pos (by omega)]
      · refine ⟨(⟨0, 0, 0, 0, []⟩, false), ?_, ?_, by simp, fun h => by cases h⟩
        · unfold spec_LtlGen
          simp only [specTemp_eq, specLtlOk_eq, ok, if_true, Option.bind_some, bnd_eq, l10Props_eq e _ h31]
          rw [Bool.not_eq_true] at hb
          rw [hb]
          cases (((!true) || decide ((((tempL 0 e).length : Nat) : Int) > 3)) || !(spec_l1In p 0 3)) <;> rfl
        · unfold impl_LtlGen
          simp only [implLtlOk_eq, ok, Option.bind_some, bnd_eq, isBelow_eq e _ h31]
          rw [Bool.not_eq_true] at hb
          rw [hb]
          cases ((!true) || !(impl_isProps p)) <;> rfl
    · refine ⟨(⟨0, 0, 0, 0, []⟩, false), ?_, ?_, by simp, fun h => by cases h⟩
      · unfold spec_LtlGen
        simp only [specTemp_eq, specLtlOk_eq, ok, if_true, Option.bind_some, bnd_eq, l1Rg]
        rw [decide_eq_false hp]
        simp only [Bool.not_false, Bool.or_true, Bool.true_or, Bool.not_true, whenO_f, Option.bind_some]
        rfl
      · unfold impl_LtlGen
        simp only [implLtlOk_eq, ok, Option.bind_some, bnd_eq]
        rw [show impl_isProps p = false from by unfold impl_isProps; rw [inRg]; exact decide_eq_false hp]
        rfl
  · rw [Bool.not_eq_true] at ok
    refine ⟨(⟨0, 0, 0, 0, []⟩, false), ?_, ?_, by simp, fun h => by cases h⟩
    · unfold spec_LtlGen
      simp only [specTemp_eq, specLtlOk_eq, ok, Option.bind_some, bnd_eq]
      simp only [Bool.not_false, Bool.true_or, Bool.not_true, whenO_f, Option.bind_some]
      rfl
    · unfold impl_LtlGen
      simp only [implLtlOk_eq, ok, Option.bind_some, bnd_eq]
      simp only [Bool.not_false, Bool.true_or, Bool.not_true, whenO_f, Option.bind_some]
      rfl
end Go.Proofs.YthdoebgikbfndaaGreat
end

/- Sets of states, edges in order, numbers compared. -/
section
namespace Go.Proofs.YthdoebgikbfndaaGreat
open Go Go.RowKit E
set_option linter.unusedVariables false

theorem setIn_eq (x : Int) {n : Nat} (h : n ≤ 31) : spec_SetIn x (W (shl .i64 1 (n : Int) - 1)) = decide (0 ≤ x ∧ x < ((2 ^ n : Nat) : Int)) := by
  have hp := pow31 h
  rw [shl1_i (by omega)]
  have e : W (((2 ^ n : Nat) : Int) - 1) = ((2 ^ n - 1 : Nat) : Int) := by
    generalize 2 ^ n = y at hp ⊢
    rw [W, W_eq (by omega) (by omega)]; omega
  rw [e]
  unfold spec_SetIn spec_SetOk
  rw [l1Rg, l1Rg, bnd_eq, bnd_eq]
  by_cases h0 : 0 ≤ x ∧ x ≤ 2147483647
  · obtain ⟨y, rfl⟩ : ∃ y : Nat, x = y := ⟨x.toNat, by omega⟩
    rw [bAnd_i (by omega) (by omega), Nat.and_two_pow_sub_one_eq_mod]
    rw [decide_eq_true h0, decide_eq_true (by omega), Bool.and_self, Bool.true_and]
    rw [decide_eq_decide]
    constructor
    · intro g
      have g : y % 2 ^ n = y := by omega
      have := (Nat.mod_eq_iff_lt (by omega)).mp g
      omega
    · rintro ⟨_, g⟩
      rw [Nat.mod_eq_of_lt (by omega)]
  · rw [decide_eq_false h0, Bool.false_and, Bool.false_and]
    symm; rw [decide_eq_false_iff_not]; omega

/-- Edges in order. -/
def edgeLt (a b : TEdge) : Bool := decide (a.from_ < b.from_ ∨ (a.from_ = b.from_ ∧ (a.letter < b.letter ∨ (a.letter = b.letter ∧ a.to_ < b.to_))))
theorem l4Less_eq (a b : TEdge) : spec_l4Less a b = edgeLt a b := by
  unfold spec_l4Less edgeLt
  split
  · rw [decide_eq_decide]; omega
  · split
    · rw [decide_eq_decide]; omega
    · rw [decide_eq_decide]; omega
end Go.Proofs.YthdoebgikbfndaaGreat
end

/- Which automata of many marks are right, by both. -/
section
namespace Go.Proofs.YthdoebgikbfndaaGreat
open Go Go.RowKit E
set_option linter.unusedVariables false

/-- What a right automaton of many marks is; it has states. -/
structure GW (g : TGen) : Prop where
  lets : 1 ≤ g.letters ∧ g.letters ≤ 8
  sts : 1 ≤ g.states ∧ g.states ≤ 31
  start : 0 ≤ g.start ∧ g.start < ((2 ^ g.states.toNat : Nat) : Int)
  sets : 0 ≤ g.sets ∧ g.sets ≤ 4
  num : g.edges.length ≤ 2000
  edge : ∀ e ∈ g.edges, (0 ≤ e.from_ ∧ e.from_ < g.states) ∧ (0 ≤ e.to_ ∧ e.to_ < g.states) ∧ (0 ≤ e.letter ∧ e.letter < g.letters) ∧ (0 ≤ e.marks ∧ e.marks < ((2 ^ g.sets.toNat : Nat) : Int))
theorem mem_gedge {g : TGen} {e : TGEdge} (h : e ∈ g.edges) : ∃ i, i < g.edges.length ∧ g.edges.getD i default = e := by
  obtain ⟨i, hi, rfl⟩ := List.getElem_of_mem h
  exact ⟨i, hi, by rw [List.getD_eq_getElem?_getD, List.getElem?_eq_getElem hi]; rfl⟩
def gEdge (e : TGEdge) : TEdge := ⟨e.from_, e.letter, e.to_, false⟩
theorem l5Less_eq (a b : TGEdge) : spec_l5Less a b = edgeLt (gEdge a) (gEdge b) := by
  unfold spec_l5Less; exact l4Less_eq _ _
def gedgeOk (a : TGen) (k : Nat) : Bool :=
  decide (0 ≤ (a.edges.getD k default).from_ ∧ (a.edges.getD k default).from_ ≤ a.states - 1) && decide (0 ≤ (a.edges.getD k default).to_ ∧ (a.edges.getD k default).to_ ≤ a.states - 1) && decide (0 ≤ (a.edges.getD k default).letter ∧ (a.edges.getD k default).letter ≤ a.letters - 1) && decide (0 ≤ (a.edges.getD k default).marks ∧ (a.edges.getD k default).marks < ((2 ^ a.sets.toNat : Nat) : Int)) && (decide (k = 0) || edgeLt (gEdge (a.edges.getD (k - 1) default)) (gEdge (a.edges.getD k default)))
def gheadOk (a : TGen) : Bool := decide (1 ≤ a.letters ∧ a.letters ≤ 8) && decide (0 ≤ a.states ∧ a.states ≤ 31) && decide (0 ≤ a.start ∧ a.start < ((2 ^ a.states.toNat : Nat) : Int)) && decide (0 ≤ a.sets ∧ a.sets ≤ 4) && decide (a.edges.length ≤ 2000)
def genOk (a : TGen) : Bool := gheadOk a && (List.range a.edges.length).all (gedgeOk a)
theorem gheadOk_t {a : TGen} (h : gheadOk a = true) : (1 ≤ a.letters ∧ a.letters ≤ 8) ∧ (0 ≤ a.states ∧ a.states ≤ 31) ∧ (0 ≤ a.start ∧ a.start < ((2 ^ a.states.toNat : Nat) : Int)) ∧ (0 ≤ a.sets ∧ a.sets ≤ 4) ∧ a.edges.length ≤ 2000 := by
  unfold gheadOk at h
  simp only [Bool.and_eq_true, decide_eq_true_eq] at h
  exact ⟨h.1.1.1.1, h.1.1.1.2, h.1.1.2, h.1.2, h.2⟩
theorem specGEdge_eq (a : TGen) (h : gheadOk a = true) {k : Nat} (hk : k < a.edges.length) : spec_GenOk.b0 a (k : Int) = some (if gedgeOk a k = true then .inl ((k + 1 : Nat) : Int) else .inr (.inr false)) := by
  obtain ⟨h1, h2, h3, h5, h4⟩ := gheadOk_t h
  unfold spec_GenOk.b0 gedgeOk spec_l4State
  have w1 : W (a.states - 1) = a.states - 1 := W_eq (by omega) (by omega)
  have w2 : W (a.letters - 1) = a.letters - 1 := W_eq (by omega) (by omega)
  have hm := fun x => setIn_eq x (n := a.sets.toNat) (by omega)
  rw [show ((a.sets.toNat : Nat) : Int) = a.sets by omega] at hm
  simp only [bnd_eq, l1Rg, w1, w2, l5Less_eq, hm]
  rw [if_pos (by omega), ix_nat hk, Option.bind_some, WN (by omega), decide_eq_true h5.1, chk_t]
  generalize a.edges.getD k default = e
  by_cases c1 : 0 ≤ e.from_ ∧ e.from_ ≤ a.states - 1
  · by_cases c2 : 0 ≤ e.to_ ∧ e.to_ ≤ a.states - 1
    · by_cases c3 : 0 ≤ e.letter ∧ e.letter ≤ a.letters - 1
      · rw [decide_eq_true c1, decide_eq_true c2, decide_eq_true c3]
        simp only [Bool.not_true, Bool.or_self, Bool.not_false, whenO_t, Option.bind_some, Bool.false_or, Bool.true_and]
        by_cases c5 : 0 ≤ e.marks ∧ e.marks < ((2 ^ a.sets.toNat : Nat) : Int)
        · rw [decide_eq_true c5]
          by_cases c4 : k = 0
          · subst c4; rfl
          · rw [decide_eq_true (by omega : (k : Int) > 0), decide_eq_false c4]
            have e1 : W ((k : Int) - 1) = ((k - 1 : Nat) : Int) := by rw [W, W_eq (by omega) (by omega)]; omega
            rw [e1, ix_nat (by omega)]
            simp only [Bool.not_true, Bool.or_self, Bool.not_false, Bool.and_self, whenO_t, Option.bind_some, Bool.false_or, Bool.true_and]
            cases edgeLt (gEdge (a.edges.getD (k - 1) default)) (gEdge e) <;> rfl
        · rw [decide_eq_false c5]; simp [whenO]
      · rw [decide_eq_false c3]; simp [whenO]
    · rw [decide_eq_false c2]; simp [whenO]
  · rw [decide_eq_false c1]; simp [whenO]
theorem specGenOk_eq (a : TGen) : spec_GenOk a = some (genOk a) := by
  unfold spec_GenOk genOk
  rw [bnd_eq, bnd_eq, bnd_eq, bnd_eq, l1Rg, l1Rg, l1Rg]
  by_cases hh : gheadOk a = true
  · obtain ⟨h1, h2, h3, h5, h4⟩ := gheadOk_t hh
    rw [decide_eq_true h1, decide_eq_true h2, Bool.not_true, Bool.or_self, Bool.not_false, whenO_t, decide_eq_true h2.1, chk_t, Option.bind_some]
    have e : a.states = ((a.states.toNat : Nat) : Int) := by omega
    have hs := setIn_eq a.start (n := a.states.toNat) (by omega)
    rw [← e] at hs
    rw [hs, decide_eq_true h3, decide_eq_true h5, decide_eq_false (by omega : ¬ (a.edges.length : Int) > 2000), if_neg (by simp), hh]
    rw [all_loop a.edges.length (gedgeOk a) (fun k hk => specGEdge_eq a hh hk) (by unfold spec_GenOk.b0; rw [if_neg (by omega)]), Option.bind_some]
    cases (List.range a.edges.length).all (gedgeOk a) <;> rfl
  · rw [Bool.not_eq_true] at hh
    rw [hh, Bool.false_and]
    by_cases h1 : 1 ≤ a.letters ∧ a.letters ≤ 8
    · by_cases h2 : 0 ≤ a.states ∧ a.states ≤ 31
      · rw [decide_eq_true h1, decide_eq_true h2, Bool.not_true, Bool.or_self, Bool.not_false, whenO_t, decide_eq_true h2.1, chk_t, Option.bind_some]
        have e : a.states = ((a.states.toNat : Nat) : Int) := by omega
        have hs := setIn_eq a.start (n := a.states.toNat) (by omega)
        rw [← e] at hs
        rw [hs]
        unfold gheadOk at hh
        rw [decide_eq_true h1, decide_eq_true h2] at hh
        rw [if_pos]
        by_cases h3 : 0 ≤ a.start ∧ a.start < ((2 ^ a.states.toNat : Nat) : Int)
        · rw [decide_eq_true h3] at hh
          by_cases h5 : 0 ≤ a.sets ∧ a.sets ≤ 4
          · rw [decide_eq_true h5] at hh
            have : ¬ a.edges.length ≤ 2000 := by simpa using hh
            rw [decide_eq_true (by omega : (a.edges.length : Int) > 2000), Bool.or_true]
          · rw [decide_eq_false h5]; simp
        · rw [decide_eq_false h3]; simp
      · rw [decide_eq_false h2]; simp [whenO]
    · rw [decide_eq_false h1]; simp [whenO]
theorem genOk_W {g : TGen} (h : genOk g = true) (hs : g.states ≠ 0) : GW g := by
  unfold genOk at h
  rw [Bool.and_eq_true] at h
  obtain ⟨g1, g2, g3, g5, g4⟩ := gheadOk_t h.1
  refine ⟨g1, by omega, g3, g5, g4, fun e he => ?_⟩
  obtain ⟨k, hk, rfl⟩ := mem_gedge he
  have := List.all_eq_true.mp h.2 k (List.mem_range.mpr hk)
  unfold gedgeOk at this
  simp only [Bool.and_eq_true, decide_eq_true_eq] at this
  omega
theorem compareG_eq (a b : TGEdge) : ∃ x, impl_compareGEdges a b = some x ∧ decide (x ≥ 0) = !(edgeLt (gEdge a) (gEdge b)) := by
  unfold impl_compareGEdges
  rw [cmpOr_eq, Option.bind_some]
  refine ⟨_, rfl, ?_⟩
  rw [cmpInt_eq, cmpInt_eq, cmpInt_eq]
  unfold edgeLt gEdge
  rw [Bool.eq_iff_iff, decide_eq_true_eq, Bool.not_eq_true', decide_eq_false_iff_not]
  dsimp only
  repeat' split
  all_goals omega
theorem implGEdge_eq (a : TGen) (h : gheadOk a = true) {k : Nat} (hk : k < a.edges.length) : impl_GenOk.b0 a (k : Int) = some (if gedgeOk a k = true then .inl ((k + 1 : Nat) : Int) else .inr (.inr false)) := by
  obtain ⟨h1, h2, h3, h5, h4⟩ := gheadOk_t h
  unfold impl_GenOk.b0 gedgeOk
  have w1 : W (a.states - 1) = a.states - 1 := W_eq (by omega) (by omega)
  have w2 : W (a.letters - 1) = a.letters - 1 := W_eq (by omega) (by omega)
  have ho := only_eq (n := a.sets.toNat) (by omega)
  rw [show ((a.sets.toNat : Nat) : Int) = a.sets by omega] at ho
  have hp := pow31 (n := a.sets.toNat) (by omega)
  have w3 : W (((2 ^ a.sets.toNat : Nat) : Int) - 1) = ((2 ^ a.sets.toNat : Nat) : Int) - 1 := by
    generalize 2 ^ a.sets.toNat = y at hp ⊢
    exact W_eq (by omega) (by omega)
  simp only [bnd_eq, inRg, w1, w2, ho, w3]
  rw [if_pos (by omega), ix_nat hk, Option.bind_some, WN (by omega)]
  generalize a.edges.getD k default = e
  by_cases c1 : 0 ≤ e.from_ ∧ e.from_ ≤ a.states - 1
  · by_cases c2 : 0 ≤ e.to_ ∧ e.to_ ≤ a.states - 1
    · by_cases c3 : 0 ≤ e.letter ∧ e.letter ≤ a.letters - 1
      · rw [decide_eq_true c1, decide_eq_true c2, decide_eq_true c3, if_neg (by simp)]
        by_cases c5 : 0 ≤ e.marks ∧ e.marks < ((2 ^ a.sets.toNat : Nat) : Int)
        · rw [decide_eq_true c5, decide_eq_true (show 0 ≤ e.marks ∧ e.marks ≤ ((2 ^ a.sets.toNat : Nat) : Int) - 1 by omega)]
          by_cases c4 : k = 0
          · subst c4; rfl
          · rw [decide_eq_true (by omega : (k : Int) > 0), decide_eq_false c4]
            have e1 : W ((k : Int) - 1) = ((k - 1 : Nat) : Int) := by rw [W, W_eq (by omega) (by omega)]; omega
            rw [e1, ix_nat (by omega)]
            obtain ⟨x, x1, x2⟩ := compareG_eq (a.edges.getD (k - 1) default) e
            simp only [Bool.not_true, Bool.or_self, Bool.not_false, Bool.and_self, whenO_t, Option.bind_some, Bool.false_or, Bool.true_and, x1, x2]
            cases edgeLt (gEdge (a.edges.getD (k - 1) default)) (gEdge e) <;> rfl
        · rw [decide_eq_false c5, decide_eq_false (show ¬ (0 ≤ e.marks ∧ e.marks ≤ ((2 ^ a.sets.toNat : Nat) : Int) - 1) by omega)]; simp [whenO]
      · rw [decide_eq_false c3]; simp
    · rw [decide_eq_false c2]; simp
  · rw [decide_eq_false c1]; simp
theorem implGenOk_eq (a : TGen) : impl_GenOk a = some (genOk a) := by
  have hd : ((impl_headOk a.letters a.states a.start && impl_inRange a.sets 0 4) && decide (a.edges.length ≤ 2000)) = gheadOk a := by
    unfold impl_headOk gheadOk impl_isLetters impl_SetOk
    simp only [bnd_eq, inRg]
    by_cases h2 : 0 ≤ a.states ∧ a.states ≤ 31
    · have ho := only_eq (n := a.states.toNat) (by omega)
      rw [show ((a.states.toNat : Nat) : Int) = a.states by omega] at ho
      have hp := pow31 (n := a.states.toNat) (by omega)
      rw [ho]
      congr 2
      rw [Bool.and_assoc]
      congr 1
      rw [← Bool.decide_and, decide_eq_decide]
      omega
    · rw [decide_eq_false h2]; simp
  unfold impl_GenOk genOk
  simp only [bnd_eq]
  by_cases hg : gheadOk a = true
  · rw [hg] at hd
    simp only [Bool.and_eq_true, decide_eq_true_eq] at hd
    obtain ⟨⟨d1, d2⟩, d3⟩ := hd
    rw [d1, d2, decide_eq_false (by omega : ¬ (a.edges.length : Int) > 2000), if_neg (by simp), hg, Bool.true_and, all_loop a.edges.length (gedgeOk a) (fun k hk => implGEdge_eq a hg hk) (by unfold impl_GenOk.b0; rw [if_neg (by omega)]), Option.bind_some]
    cases (List.range a.edges.length).all (gedgeOk a) <;> rfl
  · have hgf : gheadOk a = false := Bool.eq_false_iff.mpr hg
    rw [hgf, Bool.false_and, if_pos]
    rw [hgf] at hd
    by_cases l : a.edges.length ≤ 2000
    · rw [decide_eq_true l, Bool.and_true] at hd
      cases d1 : impl_headOk a.letters a.states a.start with
      | false => simp
      | true => rw [d1, Bool.true_and] at hd; rw [hd]; simp
    · rw [decide_eq_true (by omega : (a.edges.length : Int) > 2000)]; simp
theorem edgeLt_trans {a b c : TEdge} (h1 : edgeLt a b = true) (h2 : edgeLt b c = true) : edgeLt a c = true := by
  unfold edgeLt at *; rw [decide_eq_true_eq] at *; omega
theorem genOk_sorted {g : TGen} (h : genOk g = true) : g.edges.Pairwise fun a b => edgeLt (gEdge a) (gEdge b) = true := by
  unfold genOk at h
  rw [Bool.and_eq_true] at h
  have adj : ∀ k (hk : k + 1 < g.edges.length), edgeLt (gEdge g.edges[k]) (gEdge g.edges[k + 1]) = true := fun k hk => by
    have := List.all_eq_true.mp h.2 (k + 1) (List.mem_range.mpr hk)
    unfold gedgeOk at this
    simp only [Bool.and_eq_true, Bool.or_eq_true, decide_eq_true_eq] at this
    rcases this.2 with c | c
    · omega
    · have e1 : g.edges.getD (k + 1 - 1) default = g.edges[k] := by rw [Nat.add_sub_cancel, List.getD_eq_getElem?_getD, List.getElem?_eq_getElem (by omega)]; rfl
      have e2 : g.edges.getD (k + 1) default = g.edges[k + 1] := by rw [List.getD_eq_getElem?_getD, List.getElem?_eq_getElem hk]; rfl
      rw [e1, e2] at c; exact c
  rw [List.pairwise_iff_getElem]
  intro i j hi hj hij
  induction j with
  | zero => omega
  | succ j ih =>
    by_cases c : i = j
    · subst c; exact adj i hj
    · exact edgeLt_trans (ih (by omega) (by omega)) (adj j hj)
end Go.Proofs.YthdoebgikbfndaaGreat
end

/- Edges sorted. -/
section
namespace Go.Proofs.YthdoebgikbfndaaGreat
open Go Go.RowKit E
set_option linter.unusedVariables false

theorem cmpE_lt (a b : TEdge) : ∃ x, impl_compareEdges a b = some x ∧ (x < 0 ↔ edgeLt a b = true) := by
  unfold impl_compareEdges
  rw [cmpOr_eq, Option.bind_some]
  refine ⟨_, rfl, ?_⟩
  rw [cmpInt_eq, cmpInt_eq, cmpInt_eq]
  unfold edgeLt
  rw [decide_eq_true_eq]
  repeat' split
  all_goals omega
theorem edgeLt_irrefl (a : TEdge) : edgeLt a a = false := by unfold edgeLt; rw [decide_eq_false_iff_not]; omega
theorem sortE_eq {l s : List TEdge} (hs : s.Pairwise fun a b => edgeLt a b = true) (hp : s.Perm l) (hl : l.length < 4611686018427387904) : slices_SortFunc_TEdge l impl_compareEdges = some s := by
  unfold slices_SortFunc_TEdge
  refine sortBy_eq cmpE_lt edgeLt_irrefl (fun a b c h1 h2 => ?_) (fun a b c h1 h2 => ?_) hs hp hl
  · unfold edgeLt at *; rw [decide_eq_true_eq] at *; omega
  · unfold edgeLt at *; rw [decide_eq_false_iff_not] at *; omega
end Go.Proofs.YthdoebgikbfndaaGreat
end

/- The reference's making of automata of edges all unlike. -/
section
namespace Go.Proofs.YthdoebgikbfndaaGreat
open Go Go.RowKit E
set_option linter.unusedVariables false

def keyE (S L : Nat) (e : TEdge) : Nat := (e.from_.toNat * L + e.letter.toNat) * S + e.to_.toNat
structure EE (S L : Nat) (e : TEdge) : Prop where
  f : 0 ≤ e.from_ ∧ e.from_ < S
  l : 0 ≤ e.letter ∧ e.letter < L
  t : 0 ≤ e.to_ ∧ e.to_ < S
def mkE (e : TEdge) : Int := if e.good = true then 2 else 1
def decE (S L i : Nat) (m : Int) : TEdge := ⟨((i / S / L : Nat) : Int), ((i / S % L : Nat) : Int), ((i % S : Nat) : Int), decide (m = 2)⟩
theorem decE_lt {S L i j : Nat} (hS : 0 < S) (hL : 0 < L) (h : i < j) (m m' : Int) : edgeLt (decE S L i m) (decE S L j m') = true := by
  have d1 := Nat.div_add_mod i S
  have d2 := Nat.div_add_mod j S
  have d3 := Nat.div_add_mod (i / S) L
  have d4 := Nat.div_add_mod (j / S) L
  have r1 := Nat.mod_lt i hS
  have r2 := Nat.mod_lt j hS
  have r3 := Nat.mod_lt (i / S) hL
  have r4 := Nat.mod_lt (j / S) hL
  rw [Nat.mul_comm] at d1 d2 d3 d4
  have k1 := digit_lt r1 r2 (by rw [d1, d2]; exact h)
  unfold edgeLt decE
  rw [decide_eq_true_eq]
  rcases k1 with k1 | ⟨k1, k2⟩
  · have k3 := digit_lt r3 r4 (by rw [d3, d4]; exact k1)
    rcases k3 with k3 | ⟨k3, k4⟩
    · left; simp only; omega
    · right; simp only; exact ⟨by omega, by omega⟩
  · right
    simp only
    rw [k1]
    exact ⟨rfl, .inr ⟨rfl, by omega⟩⟩
theorem decE_key {S L : Nat} {e : TEdge} (h : EE S L e) : decE S L (keyE S L e) (mkE e) = e := by
  obtain ⟨h1, h2, h3⟩ := key_div (S := S) (L := L) (f := e.from_.toNat) (l := e.letter.toNat) (t := e.to_.toNat) (by have := h.l; omega) (by have := h.t; omega)
  unfold decE keyE
  rw [h1, h2, h3]
  obtain ⟨f, l, t, m⟩ := e
  have a := h.f; have b := h.l; have c := h.t
  have hm : decide (mkE ⟨f, l, t, m⟩ = 2) = m := by unfold mkE; cases m <;> rfl
  rw [hm]
  simp only at a b c ⊢
  congr 1 <;> omega
theorem keyE_lt {S L : Nat} {e : TEdge} (h : EE S L e) : keyE S L e < S * L * S := key_lt (by have := h.f; omega) (by have := h.l; omega) (by have := h.t; omega)
theorem keyE_W {S L : Nat} (hS : S ≤ 31) (hL : L ≤ 8) {e : TEdge} (h : EE S L e) : W (W (W (W (e.from_ * (L : Int)) + e.letter) * (S : Int)) + e.to_) = ((keyE S L e : Nat) : Int) := by
  obtain ⟨f, l, t, m⟩ := e
  have a := h.f; have b := h.l; have c := h.t
  simp only at a b c ⊢
  unfold keyE
  simp only
  obtain ⟨f, rfl⟩ : ∃ x : Nat, f = x := ⟨f.toNat, by omega⟩
  obtain ⟨l, rfl⟩ : ∃ x : Nat, l = x := ⟨l.toNat, by omega⟩
  obtain ⟨t, rfl⟩ : ∃ x : Nat, t = x := ⟨t.toNat, by omega⟩
  simp only [Int.toNat_natCast]
  have b1 : f * L ≤ 31 * 8 := Nat.mul_le_mul (by omega) hL
  have e1 : (f : Int) * (L : Int) = ((f * L : Nat) : Int) := by push_cast; rfl
  have wn : ∀ x : Nat, x ≤ 1000000 → W (x : Int) = (x : Int) := fun x h => W_eq (by omega) (by omega)
  have e2 : ((f * L : Nat) : Int) + (l : Int) = ((f * L + l : Nat) : Int) := by omega
  have b2 : (f * L + l) * S ≤ 300 * 31 := Nat.mul_le_mul (by omega) hS
  have e3 : ((f * L + l : Nat) : Int) * (S : Int) = (((f * L + l) * S : Nat) : Int) := by push_cast; rfl
  have e4 : (((f * L + l) * S : Nat) : Int) + (t : Int) = (((f * L + l) * S + t : Nat) : Int) := by omega
  rw [e1, wn _ (by omega), e2, wn _ (by omega), e3, wn _ (by omega), e4, wn _ (by omega)]
theorem keyE_ne {S L : Nat} {a b : TEdge} (ha : EE S L a) (hb : EE S L b) (h : ¬ (a.from_ = b.from_ ∧ a.letter = b.letter ∧ a.to_ = b.to_)) : keyE S L a ≠ keyE S L b := fun hk => by
  have h1 := decE_key ha
  have h2 := decE_key hb
  rw [hk] at h1
  have a1 : a.from_ = b.from_ := by
    have q1 : (decE S L (keyE S L b) (mkE a)).from_ = a.from_ := congrArg TEdge.from_ h1
    have q2 : (decE S L (keyE S L b) (mkE b)).from_ = b.from_ := congrArg TEdge.from_ h2
    exact q1.symm.trans q2
  have a2 : a.letter = b.letter := by
    have q1 : (decE S L (keyE S L b) (mkE a)).letter = a.letter := congrArg TEdge.letter h1
    have q2 : (decE S L (keyE S L b) (mkE b)).letter = b.letter := congrArg TEdge.letter h2
    exact q1.symm.trans q2
  have a3 : a.to_ = b.to_ := by
    have q1 : (decE S L (keyE S L b) (mkE a)).to_ = a.to_ := congrArg TEdge.to_ h1
    have q2 : (decE S L (keyE S L b) (mkE b)).to_ = b.to_ := congrArg TEdge.to_ h2
    exact q1.symm.trans q2
  exact h ⟨a1, a2, a3⟩

/-- The table of edges. -/
noncomputable def putE (S L : Nat) (st : List Int) (e : TEdge) : List Int := st.set (keyE S L e) (spec_l1Max (st.getD (keyE S L e) 0) (mkE e))
theorem putE_len (S L : Nat) : ∀ (l : List TEdge) (st : List Int), (l.foldl (putE S L) st).length = st.length
  | [], _ => rfl
  | e :: l, st => by rw [List.foldl_cons, putE_len S L l]; unfold putE; simp
theorem putE_one {S L i : Nat} {e : TEdge} {st : List Int} (h : keyE S L e ≠ i) : (putE S L st e).getD i 0 = st.getD i 0 := by
  unfold putE
  simp only [List.getD_eq_getElem?_getD]
  rw [List.getElem?_set_ne h]
theorem putE_other {S L i : Nat} : ∀ (l : List TEdge) (st : List Int), (∀ e ∈ l, keyE S L e ≠ i) → (l.foldl (putE S L) st).getD i 0 = st.getD i 0
  | [], _, _ => rfl
  | e :: l, st, h => by
    rw [List.foldl_cons, putE_other l _ fun x hx => h x (List.mem_cons_of_mem _ hx)]
    exact putE_one (h e List.mem_cons_self)
theorem putE_mem {S L : Nat} : ∀ (l : List TEdge) (st : List Int), (l.Pairwise fun a b => keyE S L a ≠ keyE S L b) → (∀ e ∈ l, st.getD (keyE S L e) 0 = 0) → ∀ e ∈ l, keyE S L e < st.length → (l.foldl (putE S L) st).getD (keyE S L e) 0 = mkE e
  | x :: l, st, hp, hz, e, he, hk => by
    rw [List.foldl_cons]
    rw [List.pairwise_cons] at hp
    rcases List.mem_cons.mp he with rfl | he
    · rw [putE_other l _ fun y hy => (hp.1 y hy).symm]
      unfold putE
      rw [hz e List.mem_cons_self]
      have : spec_l1Max 0 (mkE e) = mkE e := by unfold spec_l1Max mkE; split <;> rfl
      rw [this]
      simp [List.getD_eq_getElem?_getD, hk]
    · exact putE_mem l _ hp.2 (fun y hy => by rw [putE_one (hp.1 y hy)]; exact hz y (List.mem_cons_of_mem _ hy)) e he (by unfold putE; simpa using hk)

/-- What is read off the table. -/
def outE (S L : Nat) (m : List Int) (n : Nat) : List TEdge := (List.range n).filterMap fun i => if m.getD i 0 > 0 then some (decE S L i (m.getD i 0)) else none
theorem outE_succ (S L : Nat) (m : List Int) (n : Nat) : outE S L m (n + 1) = outE S L m n ++ (if m.getD n 0 > 0 then [decE S L n (m.getD n 0)] else []) := by
  unfold outE
  rw [List.range_succ, List.filterMap_append]
  congr 1
  by_cases h : m.getD n 0 > 0
  · rw [if_pos h]; simp only [List.filterMap_cons, List.filterMap_nil]; rw [if_pos h]
  · rw [if_neg h]; simp only [List.filterMap_cons, List.filterMap_nil]; rw [if_neg h]
theorem outE_len (S L : Nat) (m : List Int) (n : Nat) : (outE S L m n).length ≤ n := by
  unfold outE
  refine Nat.le_trans (List.length_filterMap_le _ _) (by simp)
theorem outE_sorted {S L : Nat} (hS : 0 < S) (hL : 0 < L) (m : List Int) (n : Nat) : (outE S L m n).Pairwise fun a b => edgeLt a b = true := by
  unfold outE
  rw [List.pairwise_filterMap]
  refine List.pairwise_lt_range.imp fun {i j} hij => ?_
  intro a ha b hb
  split at ha
  · split at hb
    · cases ha; cases hb; exact decE_lt hS hL hij _ _
    · cases hb
  · cases ha

theorem autoMake_eq {S L : Nat} (bS : 1 ≤ S ∧ S ≤ 31) (bL : 1 ≤ L ∧ L ≤ 8) {st : Int} (hok : spec_AutoOk ⟨(L : Int), (S : Int), st, []⟩ = some true) {E : List TEdge} (hl : E.length ≤ 2000) (he : ∀ e ∈ E, EE S L e)
    (hk : E.Pairwise fun a b => keyE S L a ≠ keyE S L b) : ∃ s, spec_AutoMake (L : Int) (S : Int) st E = some (⟨(L : Int), (S : Int), st, s⟩, true) ∧ s.Perm E ∧ s.Pairwise fun a b => edgeLt a b = true := by
  have bSL : S * L ≤ 31 * 8 := Nat.mul_le_mul bS.2 bL.2
  have bN : S * L * S ≤ 248 * 31 := Nat.mul_le_mul bSL bS.2
  have w1 : W ((S : Int) * (L : Int)) = ((S * L : Nat) : Int) := by
    rw [show (S : Int) * (L : Int) = ((S * L : Nat) : Int) by push_cast; rfl, W, W_eq (by omega) (by omega)]
  have w2 : W (((S * L : Nat) : Int) * (S : Int)) = ((S * L * S : Nat) : Int) := by
    rw [show ((S * L : Nat) : Int) * (S : Int) = ((S * L * S : Nat) : Int) by push_cast; rfl, W, W_eq (by omega) (by omega)]
  have w5 : W ((S : Int) - 1) = (S : Int) - 1 := W_eq (by omega) (by omega)
  have w6 : W ((L : Int) - 1) = (L : Int) - 1 := W_eq (by omega) (by omega)
  generalize hN : S * L * S = N at *
  have hrep : ∀ i, (List.replicate N (0 : Int)).getD i 0 = 0 := fun i => by
    simp only [List.getD_eq_getElem?_getD, List.getElem?_replicate]
    split <;> rfl
  have hmem : ∀ i, (E.foldl (putE S L) (List.replicate N 0)).getD i 0 > 0 → ∃ e ∈ E, keyE S L e = i ∧ (E.foldl (putE S L) (List.replicate N 0)).getD i 0 = mkE e := fun i hi => by
    by_cases c : ∀ e ∈ E, keyE S L e ≠ i
    · rw [putE_other _ _ c, hrep] at hi; omega
    · obtain ⟨e, c⟩ := Classical.not_forall.mp c
      obtain ⟨c1, c2⟩ := Classical.not_imp.mp c
      have c2 := Classical.not_not.mp c2
      refine ⟨e, c1, c2, ?_⟩
      rw [← c2]
      exact putE_mem _ _ hk (fun y _ => hrep _) e c1 (by have := keyE_lt (he e c1); simp; omega)
  refine ⟨outE S L (E.foldl (putE S L) (List.replicate N 0)) N, ?_, ?_, outE_sorted (by omega) (by omega) _ _⟩
  · unfold spec_AutoMake
    rw [hok, Option.bind_some, bnd_eq, decide_eq_false (by omega), if_neg (by simp), w1, w2, mk_ok (by omega) (by omega), Option.bind_some, Int.toNat_natCast]
    have h1 := loop_up (body := fun s : Int × Int × Int × List TEdge × List Int × Int => spec_AutoMake.b1 E (S : Int) (L : Int) s.1 s.2.1 s.2.2.1 s.2.2.2.1 s.2.2.2.2.1 s.2.2.2.2.2) E.length (fun k => (0, 0, 0, [], (E.take k).foldl (putE S L) (List.replicate N 0), (k : Int)))
      (.inl (0, 0, 0, [], E.foldl (putE S L) (List.replicate N 0))) (fun k hk => by
      have hm := he _ (List.getElem_mem hk)
      have hd : E.getD k default = E[k] := by simp [List.getD_eq_getElem?_getD, hk]
      have ht : (E.take (k + 1)).foldl (putE S L) (List.replicate N 0) = putE S L ((E.take k).foldl (putE S L) (List.replicate N 0)) E[k] := by
        rw [List.take_succ_eq_append_getElem hk, List.foldl_append]; rfl
      have hlen : ((E.take k).foldl (putE S L) (List.replicate N 0)).length = N := by rw [putE_len]; simp
      rw [ht]
      generalize (E.take k).foldl (putE S L) (List.replicate N 0) = y at hlen ⊢
      have hkey := keyE_lt hm
      have hmf := hm.f; have hml := hm.l; have hmt := hm.t
      dsimp only
      unfold spec_AutoMake.b1
      rw [if_pos (by omega), ix_nat hk, Option.bind_some, hd]
      unfold spec_l4State
      rw [w5, w6, l1Rg, l1Rg, l1Rg, decide_eq_true (by omega), decide_eq_true (by omega), decide_eq_true (by omega), bnd_eq, bnd_eq, if_neg (by simp)]
      unfold spec_AutoMake.k2 putE mkE
      rw [keyE_W bS.2 bL.2 hm, ix_nat (by omega), Option.bind_some, Option.bind_some, ck_nat (by omega), Option.bind_some, Option.bind_some, WN (by omega)]
      have hdd : y.getD (keyE S L E[k]) default = y.getD (keyE S L E[k]) 0 := rfl
      rw [hdd]
      split <;> rfl) (by dsimp only; unfold spec_AutoMake.b1; rw [if_neg (by omega), List.take_length]) 0 (Nat.zero_le _)
    have h1' : loop (fun s : Int × Int × Int × List TEdge × List Int × Int => spec_AutoMake.b1 E (S : Int) (L : Int) s.1 s.2.1 s.2.2.1 s.2.2.2.1 s.2.2.2.2.1 s.2.2.2.2.2) (0, 0, 0, [], List.replicate N 0, 0) = _ := h1
    rw [h1', Option.bind_some]
    have hml : (E.foldl (putE S L) (List.replicate N 0)).length = N := by rw [putE_len]; simp
    clear h1 h1'
    generalize E.foldl (putE S L) (List.replicate N 0) = m at hml hmem ⊢
    show spec_AutoMake.k0 (S : Int) (L : Int) st 0 0 0 [] m = _
    unfold spec_AutoMake.k0
    have h2 := loop_up (body := fun s : Int × Int × Int × List TEdge × Int => spec_AutoMake.b0 m (S : Int) (L : Int) s.1 s.2.1 s.2.2.1 s.2.2.2.1 s.2.2.2.2) N (fun k => ((L : Int), (S : Int), st, outE S L m k, (k : Int))) ((L : Int), (S : Int), st, outE S L m N) (fun k hk => by
      dsimp only
      unfold spec_AutoMake.b0
      have hdf : m.getD k default = m.getD k 0 := rfl
      have hkm : k < m.length := by omega
      have q1 := qm (S := S) (x := k) bS (by omega)
      have q2 := qm (S := L) (x := k / S) (by omega) (by have := Nat.div_le_self k S; omega)
      rw [if_pos (by omega), ix_nat hkm, Option.bind_some, hdf, outE_succ]
      by_cases c : m.getD k 0 > 0
      · rw [if_pos c, if_pos c, decide_eq_true (by omega), decide_eq_true (by omega), chk_t]
        simp only [Option.bind_some]
        rw [q1.1, q2.1, q2.2, q1.2, app_small (by have := outE_len S L m k; simp; omega) (by omega), Option.bind_some, WN (by omega)]
        rfl
      · rw [if_neg c, if_neg c, List.append_nil, WN (by omega)]) (by
      dsimp only; unfold spec_AutoMake.b0; rw [if_neg (by omega)]) 0 (Nat.zero_le _)
    have h3 : loop (fun s : Int × Int × Int × List TEdge × Int => spec_AutoMake.b0 m (S : Int) (L : Int) s.1 s.2.1 s.2.2.1 s.2.2.2.1 s.2.2.2.2) ((L : Int), (S : Int), st, [], 0) = some ((L : Int), (S : Int), st, outE S L m N) := h2
    rw [h3]; rfl
  · rw [List.perm_ext_iff_of_nodup]
    · intro e
      unfold outE
      rw [List.mem_filterMap]
      constructor
      · rintro ⟨i, hi, h⟩
        split at h
        · rename_i c
          cases h
          obtain ⟨e, e1, e2, e3⟩ := hmem i c
          rw [e3, ← e2, decE_key (he e e1)]
          exact e1
        · cases h
      · intro h
        have h1 := keyE_lt (he e h)
        have h2 := putE_mem E (List.replicate N 0) hk (fun y _ => hrep _) e h (by simp; omega)
        refine ⟨keyE S L e, by simp; omega, ?_⟩
        rw [h2, if_pos (by unfold mkE; split <;> omega), decE_key (he e h)]
    · refine (outE_sorted (by omega) (by omega) _ _).imp fun {a b} h => ?_
      rintro rfl
      rw [edgeLt_irrefl] at h; cases h
    · exact hk.imp fun {a b} h => by rintro rfl; exact h rfl
end Go.Proofs.YthdoebgikbfndaaGreat
end

/- Edges put in order by the program. -/
section
namespace Go.Proofs.YthdoebgikbfndaaGreat
open Go Go.RowKit E
set_option linter.unusedVariables false

theorem ordered_eq {l s : List TEdge} (hs : s.Pairwise fun a b => edgeLt a b = true) (hp : s.Perm l) (hl : l.length ≤ 100000) : impl_ordered l = some s := by
  unfold impl_ordered
  have hc : slices_Clone_impl_Edge_impl_Edge l = some l := by
    unfold slices_Clone_impl_Edge_impl_Edge
    by_cases c : l = []
    · rw [if_pos c, c]
    · rw [if_neg c, app_small (by simp; omega) (by omega)]; rfl
  rw [hc, Option.bind_some, sortE_eq hs hp (by omega), Option.bind_some]
  have hls : s.length = l.length := hp.length_eq
  have h := loop_up (body := fun q : List TEdge × Int => impl_ordered.b0 s q.1 q.2) s.length (fun k => (s.take k, (k : Int))) s (fun k hk => by
      dsimp only
      unfold impl_ordered.b0
      have ht : s.take (k + 1) = s.take k ++ [s[k]] := List.take_succ_eq_append_getElem hk
      have hd : s.getD k default = s[k] := by simp [List.getD_eq_getElem?_getD, hk]
      have hlen : (s.take k).length = k := by simp; omega
      rw [if_pos (by omega), ix_nat hk, Option.bind_some, hlen, ht, hd, WN (by omega)]
      have fin : (app 32 (s.take k) [s[k]]).bind (fun z48 => some (.inl (z48, ((k + 1 : Nat) : Int)))) = (some (.inl (s.take k ++ [s[k]], ((k + 1 : Nat) : Int))) : Option ((List TEdge × Int) ⊕ List TEdge)) := by
        rw [app_small (by simp; omega) (by omega), Option.bind_some]
      by_cases c : k = 0
      · subst c
        have w : W (((0 : Nat) : Int) - 1) = -1 := by decide
        rw [w, bnd_eq, decide_eq_false (by omega), whenO_f, Option.bind_some, whenO_f, Option.bind_some, Bool.false_and, if_neg (by simp)]
        exact fin
      · have w : W ((k : Int) - 1) = ((k - 1 : Nat) : Int) := by rw [W, W_eq (by omega) (by omega)]; omega
        have hg : (s.take k).getD (k - 1) default = s[k - 1] := by
          rw [List.getD_eq_getElem?_getD, List.getElem?_take_of_lt (by omega), List.getElem?_eq_getElem (by omega)]; rfl
        obtain ⟨x, x1, x2⟩ := cmpE_lt s[k - 1] s[k]
        have hlt : edgeLt s[k - 1] s[k] = true := (List.pairwise_iff_getElem.mp hs) (k - 1) k (by omega) hk (by omega)
        have hx := x2.mpr hlt
        rw [w, bnd_eq, decide_eq_true (by omega), whenO_t, ix_nat (by omega), Option.bind_some, hg, whenO_t, x1, Option.bind_some, Bool.true_and, decide_eq_false (by omega), if_neg (by simp)]
        exact fin) (by
      dsimp only; unfold impl_ordered.b0; rw [if_neg (by omega), List.take_length]) 0 (Nat.zero_le _)
  have h2 : loop (fun q : List TEdge × Int => impl_ordered.b0 s q.1 q.2) ([], 0) = some s := by
    have e0 : s.take 0 = [] := rfl
    rw [e0] at h; exact h
  rw [h2]; rfl
end Go.Proofs.YthdoebgikbfndaaGreat
end

/- Automata: both sides' test that an automaton is right. -/
section
namespace Go.Proofs.YthdoebgikbfndaaGreat
open Go Go.RowKit E
set_option linter.unusedVariables false

theorem compareEdges_eq (a b : TEdge) : ∃ x, impl_compareEdges a b = some x ∧ decide (x ≥ 0) = !(edgeLt a b) := by
  unfold impl_compareEdges
  rw [cmpOr_eq, Option.bind_some]
  refine ⟨_, rfl, ?_⟩
  rw [cmpInt_eq, cmpInt_eq, cmpInt_eq]
  unfold edgeLt
  rw [Bool.eq_iff_iff, decide_eq_true_eq, Bool.not_eq_true', decide_eq_false_iff_not]
  repeat' split
  all_goals omega
/-- The k-th edge is right. -/
def edgeOk (a : TAuto) (k : Nat) : Bool :=
  decide (0 ≤ (a.edges.getD k default).from_ ∧ (a.edges.getD k default).from_ ≤ a.states - 1) && decide (0 ≤ (a.edges.getD k default).to_ ∧ (a.edges.getD k default).to_ ≤ a.states - 1) && decide (0 ≤ (a.edges.getD k default).letter ∧ (a.edges.getD k default).letter ≤ a.letters - 1) && (decide (k = 0) || edgeLt (a.edges.getD (k - 1) default) (a.edges.getD k default))
def headOk (a : TAuto) : Bool := decide (1 ≤ a.letters ∧ a.letters ≤ 8) && decide (0 ≤ a.states ∧ a.states ≤ 31) && decide (0 ≤ a.start ∧ a.start < ((2 ^ a.states.toNat : Nat) : Int)) && decide (a.edges.length ≤ 2000)
def autoOk (a : TAuto) : Bool := headOk a && (List.range a.edges.length).all (edgeOk a)
theorem headOk_t {a : TAuto} (h : headOk a = true) : (1 ≤ a.letters ∧ a.letters ≤ 8) ∧ (0 ≤ a.states ∧ a.states ≤ 31) ∧ (0 ≤ a.start ∧ a.start < ((2 ^ a.states.toNat : Nat) : Int)) ∧ a.edges.length ≤ 2000 := by
  unfold headOk at h
  simp only [Bool.and_eq_true, decide_eq_true_eq] at h
  exact ⟨h.1.1.1, h.1.1.2, h.1.2, h.2⟩
theorem specEdge_eq (a : TAuto) (h : headOk a = true) {k : Nat} (hk : k < a.edges.length) : spec_AutoOk.b0 a (k : Int) = some (if edgeOk a k = true then .inl ((k + 1 : Nat) : Int) else .inr (.inr false)) := by
  obtain ⟨h1, h2, h3, h4⟩ := headOk_t h
  unfold spec_AutoOk.b0 edgeOk spec_l4State
  have w1 : W (a.states - 1) = a.states - 1 := W_eq (by omega) (by omega)
  have w2 : W (a.letters - 1) = a.letters - 1 := W_eq (by omega) (by omega)
  simp only [bnd_eq, l1Rg, w1, w2, l4Less_eq]
  rw [if_pos (by omega), ix_nat hk, Option.bind_some, WN (by omega)]
  generalize a.edges.getD k default = e
  by_cases c1 : 0 ≤ e.from_ ∧ e.from_ ≤ a.states - 1
  · by_cases c2 : 0 ≤ e.to_ ∧ e.to_ ≤ a.states - 1
    · by_cases c3 : 0 ≤ e.letter ∧ e.letter ≤ a.letters - 1
      · rw [decide_eq_true c1, decide_eq_true c2, decide_eq_true c3]
        by_cases c4 : k = 0
        · subst c4; rfl
        · rw [decide_eq_true (by omega : (k : Int) > 0), decide_eq_false c4]
          have e1 : W ((k : Int) - 1) = ((k - 1 : Nat) : Int) := by rw [W, W_eq (by omega) (by omega)]; omega
          rw [e1, ix_nat (by omega)]
          simp only [Bool.not_true, Bool.or_self, Bool.not_false, Bool.and_self, whenO_t, Option.bind_some, Bool.false_or, Bool.true_and]
          cases edgeLt (a.edges.getD (k - 1) default) e <;> rfl
      · rw [decide_eq_false c3]; simp [whenO]
    · rw [decide_eq_false c2]; simp [whenO]
  · rw [decide_eq_false c1]; simp [whenO]
theorem implEdge_eq (a : TAuto) (h : headOk a = true) {k : Nat} (hk : k < a.edges.length) : impl_AutoOk.b0 a (k : Int) = some (if edgeOk a k = true then .inl ((k + 1 : Nat) : Int) else .inr (.inr false)) := by
  obtain ⟨h1, h2, h3, h4⟩ := headOk_t h
  unfold impl_AutoOk.b0 edgeOk
  have w1 : W (a.states - 1) = a.states - 1 := W_eq (by omega) (by omega)
  have w2 : W (a.letters - 1) = a.letters - 1 := W_eq (by omega) (by omega)
  simp only [bnd_eq, inRg, w1, w2]
  rw [if_pos (by omega), ix_nat hk, Option.bind_some, WN (by omega)]
  generalize a.edges.getD k default = e
  by_cases c1 : 0 ≤ e.from_ ∧ e.from_ ≤ a.states - 1
  · by_cases c2 : 0 ≤ e.to_ ∧ e.to_ ≤ a.states - 1
    · by_cases c3 : 0 ≤ e.letter ∧ e.letter ≤ a.letters - 1
      · rw [decide_eq_true c1, decide_eq_true c2, decide_eq_true c3]
        rw [if_neg (by simp)]
        by_cases c4 : k = 0
        · subst c4; rfl
        · rw [decide_eq_true (by omega : (k : Int) > 0), decide_eq_false c4]
          have e1 : W ((k : Int) - 1) = ((k - 1 : Nat) : Int) := by rw [W, W_eq (by omega) (by omega)]; omega
          rw [e1, ix_nat (by omega)]
          obtain ⟨x, x1, x2⟩ := compareEdges_eq (a.edges.getD (k - 1) default) e
          rw [whenO_t, Option.bind_some, whenO_t, x1, Option.bind_some, x2]
          cases edgeLt (a.edges.getD (k - 1) default) e <;> rfl
      · rw [decide_eq_false c3]; simp
    · rw [decide_eq_false c2]; simp
  · rw [decide_eq_false c1]; simp
theorem specAutoOk_eq (a : TAuto) : spec_AutoOk a = some (autoOk a) := by
  unfold spec_AutoOk autoOk
  rw [bnd_eq, bnd_eq, bnd_eq, l1Rg, l1Rg]
  by_cases hh : headOk a = true
  · obtain ⟨h1, h2, h3, h4⟩ := headOk_t hh
    rw [decide_eq_true h1, decide_eq_true h2, Bool.not_true, Bool.or_self, Bool.not_false, whenO_t, decide_eq_true h2.1, chk_t, Option.bind_some]
    have e : a.states = ((a.states.toNat : Nat) : Int) := by omega
    have hs := setIn_eq a.start (n := a.states.toNat) (by omega)
    rw [← e] at hs
    rw [hs, decide_eq_true h3, decide_eq_false (by omega : ¬ (a.edges.length : Int) > 2000), if_neg (by simp), hh]
    rw [all_loop a.edges.length (edgeOk a) (fun k hk => specEdge_eq a hh hk) (by unfold spec_AutoOk.b0; rw [if_neg (by omega)]), Option.bind_some]
    cases (List.range a.edges.length).all (edgeOk a) <;> rfl
  · rw [Bool.not_eq_true] at hh
    rw [hh, Bool.false_and]
    by_cases h1 : 1 ≤ a.letters ∧ a.letters ≤ 8
    · by_cases h2 : 0 ≤ a.states ∧ a.states ≤ 31
      · rw [decide_eq_true h1, decide_eq_true h2, Bool.not_true, Bool.or_self, Bool.not_false, whenO_t, decide_eq_true h2.1, chk_t, Option.bind_some]
        have e : a.states = ((a.states.toNat : Nat) : Int) := by omega
        have hs := setIn_eq a.start (n := a.states.toNat) (by omega)
        rw [← e] at hs
        rw [hs]
        unfold headOk at hh
        rw [decide_eq_true h1, decide_eq_true h2] at hh
        rw [if_pos]
        by_cases h3 : 0 ≤ a.start ∧ a.start < ((2 ^ a.states.toNat : Nat) : Int)
        · rw [decide_eq_true h3] at hh
          have : ¬ a.edges.length ≤ 2000 := by simpa using hh
          rw [decide_eq_true (by omega : (a.edges.length : Int) > 2000), Bool.or_true]
        · rw [decide_eq_false h3]; simp
      · rw [decide_eq_false h2]; simp [whenO]
    · rw [decide_eq_false h1]; simp [whenO]
theorem implAutoOk_eq (a : TAuto) : impl_AutoOk a = some (autoOk a) := by
  have hd : (impl_headOk a.letters a.states a.start && decide (a.edges.length ≤ 2000)) = headOk a := by
    unfold impl_headOk headOk impl_isLetters impl_SetOk
    simp only [bnd_eq, inRg]
    by_cases h2 : 0 ≤ a.states ∧ a.states ≤ 31
    · have ho := only_eq (n := a.states.toNat) (by omega)
      rw [show ((a.states.toNat : Nat) : Int) = a.states by omega] at ho
      have hp := pow31 (n := a.states.toNat) (by omega)
      rw [ho]
      congr 1
      rw [Bool.and_assoc]
      congr 1
      rw [← Bool.decide_and, decide_eq_decide]
      omega
    · rw [decide_eq_false h2]; simp
  unfold impl_AutoOk autoOk
  rw [bnd_eq, ← hd]
  by_cases hl : a.edges.length ≤ 2000
  · rw [decide_eq_true hl, decide_eq_false (by omega : ¬ (a.edges.length : Int) > 2000), Bool.and_true, Bool.or_false]
    rw [decide_eq_true hl, Bool.and_true] at hd
    cases hh : impl_headOk a.letters a.states a.start with
    | false => rw [Bool.not_false, if_pos rfl]; rfl
    | true =>
      rw [hh] at hd
      rw [Bool.not_true, if_neg (by simp), all_loop a.edges.length (edgeOk a) (fun k hk => implEdge_eq a hd.symm hk) (by unfold impl_AutoOk.b0; rw [if_neg (by omega)]), Option.bind_some]
      cases (List.range a.edges.length).all (edgeOk a) <;> rfl
  · rw [decide_eq_true (by omega : (a.edges.length : Int) > 2000), Bool.or_true, if_pos rfl, decide_eq_false hl, Bool.and_false]; rfl
/-- What a right automaton's edges are. -/
theorem autoOk_t {a : TAuto} (h : autoOk a = true) : headOk a = true ∧ ∀ k, k < a.edges.length → (0 ≤ (a.edges.getD k default).from_ ∧ (a.edges.getD k default).from_ ≤ 30) ∧ (0 ≤ (a.edges.getD k default).to_ ∧ (a.edges.getD k default).to_ ≤ 30) := by
  unfold autoOk at h
  rw [Bool.and_eq_true] at h
  refine ⟨h.1, fun k hk => ?_⟩
  have h2 := (headOk_t h.1).2.1
  have := List.all_eq_true.mp h.2 k (List.mem_range.mpr hk)
  unfold edgeOk at this
  simp only [Bool.and_eq_true, decide_eq_true_eq] at this
  omega
end Go.Proofs.YthdoebgikbfndaaGreat
end

/- What a right automaton is. -/
section
namespace Go.Proofs.YthdoebgikbfndaaGreat
open Go Go.RowKit E
set_option linter.unusedVariables false

/-- What a right automaton is. -/
structure AOk (a : TAuto) : Prop where
  lets : 1 ≤ a.letters ∧ a.letters ≤ 8
  sts : 0 ≤ a.states ∧ a.states ≤ 31
  start : 0 ≤ a.start ∧ a.start < ((2 ^ a.states.toNat : Nat) : Int)
  num : a.edges.length ≤ 2000
  edge : ∀ e ∈ a.edges, (0 ≤ e.from_ ∧ e.from_ < a.states) ∧ (0 ≤ e.to_ ∧ e.to_ < a.states) ∧ (0 ≤ e.letter ∧ e.letter < a.letters)
theorem autoOk_A {a : TAuto} (h : autoOk a = true) : AOk a := by
  obtain ⟨h1, h2⟩ := autoOk_t h
  obtain ⟨g1, g2, g3, g4⟩ := headOk_t h1
  refine ⟨g1, g2, g3, g4, fun e he => ?_⟩
  obtain ⟨k, hk, rfl⟩ := List.getElem_of_mem he
  unfold autoOk at h
  rw [Bool.and_eq_true] at h
  have := List.all_eq_true.mp h.2 k (List.mem_range.mpr hk)
  unfold edgeOk at this
  simp only [Bool.and_eq_true, decide_eq_true_eq] at this
  have e1 : a.edges.getD k default = a.edges[k] := by simp [List.getD_eq_getElem?_getD, hk]
  rw [e1] at this
  omega
end Go.Proofs.YthdoebgikbfndaaGreat
end

/- Bits put into a set by a list. -/
section
namespace Go.Proofs.YthdoebgikbfndaaGreat
open Go Go.RowKit E
set_option linter.unusedVariables false

def orL {α : Type} (c : α → Bool) (t : α → Nat) (l : List α) (s : Nat) : Nat := l.foldl (fun s x => if c x = true then s ||| 2 ^ t x else s) s
end Go.Proofs.YthdoebgikbfndaaGreat
end

/- Ways in graphs: what a search down tells by its order, and how points are told into rings. -/
section
namespace Go.Proofs.YthdoebgikbfndaaGreat
open Go Go.RowKit E
set_option linter.unusedVariables false

/-- Steps lead from a to b. -/
inductive Rch (adj : Nat → List Nat) : Nat → Nat → Prop where
  | refl (a : Nat) : Rch adj a a
  | head {a b c : Nat} (h : b ∈ adj a) (k : Rch adj b c) : Rch adj a c
section
variable {adj : Nat → List Nat}
def Mut (adj : Nat → List Nat) (a b : Nat) : Prop := Rch adj a b ∧ Rch adj b a
def Chain (adj : Nat → List Nat) : List (Nat × Nat) → Prop
  | x :: y :: r => x.1 ∈ adj y.1 ∧ Chain adj (y :: r)
  | _ => True
/-- A search down, under way. -/
structure Dfs (adj : Nat → List Nat) (n : Nat) (order : List Nat) (rs : List (Nat × Nat)) (seen : List Bool) : Prop where
  len : seen.length = n
  nd : (order ++ rs.map (·.1)).Nodup
  mem : ∀ v, v < n → (seen.getD v default = true ↔ v ∈ order ++ rs.map (·.1))
  lt : ∀ v, v ∈ order ++ rs.map (·.1) → v < n
  path : Chain adj rs
  at_ : ∀ x ∈ rs, x.2 ≤ (adj x.1).length ∧ ∀ j, j < x.2 → seen.getD ((adj x.1).getD j 0) default = true
  fin : ∀ p ∈ order, ∀ q ∈ adj p, seen.getD q default = true
  J : ∀ i, i < order.length → ∀ j, j ≤ i → ∀ q ∈ adj (order.getD j 0), q ∈ order.take (i + 1) ∨ Rch adj q (order.getD i 0)
variable {n : Nat} {order : List Nat} {rs : List (Nat × Nat)} {seen : List Bool}
/-- What the order of a search down tells in the end. -/
structure Fins (adj : Nat → List Nat) (n : Nat) (order : List Nat) : Prop where
  nd : order.Nodup
  all : ∀ v, v < n → v ∈ order
  lt : ∀ v ∈ order, v < n
  J : ∀ i, i < order.length → ∀ j, j ≤ i → ∀ q ∈ adj (order.getD j 0), q ∈ order.take (i + 1) ∨ Rch adj q (order.getD i 0)
/-- Points are marked, each once. -/
def pour (d : Int) : List Nat → List Int × List Nat → List Int × List Nat
  | [], s => s
  | u :: l, s => pour d l (if s.1.getD u default < 0 then (s.1.set u d, s.2 ++ [u]) else s)
/-- The points of a ring are marked, under way. -/
structure Flood (adj radj : Nat → List Nat) (n root : Nat) (ring : Int) (out0 : List Int) (ex : Nat → Prop) (s : List Int × List Nat) : Prop where
  len : s.1.length = n
  old : ∀ v, v < n → 0 ≤ out0.getD v default → s.1.getD v default = out0.getD v default
  new : ∀ v, v < n → out0.getD v default < 0 → s.1.getD v default < 0 ∨ (s.1.getD v default = ring ∧ Rch adj v root)
  stk : ∀ v ∈ s.2, v < n ∧ out0.getD v default < 0 ∧ s.1.getD v default = ring
  closed : ∀ v, v < n → out0.getD v default < 0 → s.1.getD v default = ring → ex v ∨ v ∈ s.2 ∨ ∀ u ∈ radj v, 0 ≤ s.1.getD u default
  rt : s.1.getD root default = ring
variable {radj : Nat → List Nat} {root : Nat} {ring : Int} {out0 : List Int}
/-- Rings told so far. -/
structure Rings (adj : Nat → List Nat) (n : Nat) (rev : List Nat) (k : Nat) (out : List Int) : Prop where
  len : out.length = n
  lt : ∀ v, v < n → out.getD v default < k
  dom : ∀ v, v < n → (0 ≤ out.getD v default ↔ ∃ j, j < k ∧ Mut adj v (rev.getD j 0))
  eq : ∀ u v, u < n → v < n → 0 ≤ out.getD u default → 0 ≤ out.getD v default → (out.getD u default = out.getD v default ↔ Mut adj u v)
variable {rev : List Nat} {out : List Int} {k : Nat}
end
end Go.Proofs.YthdoebgikbfndaaGreat
end

/- How many of a row are of a kind, when one of them is written. -/
section
namespace Go.Proofs.YthdoebgikbfndaaGreat
open Go Go.RowKit E
set_option linter.unusedVariables false

def unseen (s : List Bool) : Nat := s.countP (fun b => !b)
def unset (s : List Int) : Nat := s.countP (fun b => decide (b < 0))
def dfsMu (adj : Nat → List Nat) (D : Nat) (rs : List (Nat × Nat)) (seen : List Bool) : Nat := unseen seen * (2 * D + 3) + (rs.map fun x => 2 * ((adj x.1).length - x.2) + 1).sum
end Go.Proofs.YthdoebgikbfndaaGreat
end

/- States kept, states reached, members of sets in order; by both. -/
section
namespace Go.Proofs.YthdoebgikbfndaaGreat
open Go Go.RowKit E
set_option linter.unusedVariables false

abbrev ints (q : List Nat) : List Int := List.map (β := Int) (fun v : Nat => (v : Int)) q
theorem WS {k : Nat} (h : k < 9223372036854775807) : W ((k : Int) + 1) = ((k + 1 : Nat) : Int) := W_nat h
theorem ints_get {q : List Nat} {i : Nat} (h : i < q.length) : ix (ints q) (i : Int) = some ((q.getD i 0 : Nat) : Int) := by
  rw [ix_nat (by simpa using h)]
  simp [List.getD_eq_getElem?_getD, h]
theorem ints_snoc (q : List Nat) (v : Nat) : ints (q ++ [v]) = ints q ++ [(v : Int)] := by simp
theorem getD_memL {α : Type} [Inhabited α] {xs : List α} {j : Nat} (h : j < xs.length) : xs.getD j default ∈ xs := by simp [List.getD_eq_getElem?_getD, h]

def wasN (S n : Nat) : List Nat := (List.range n).filter fun s => S.testBit s
theorem wasN_succ (S n : Nat) : wasN S (n + 1) = if S.testBit n = true then wasN S n ++ [n] else wasN S n := by
  unfold wasN
  rw [List.range_succ, List.filter_append]
  by_cases h : S.testBit n = true
  · rw [if_pos h, List.filter_cons_of_pos h]; rfl
  · rw [if_neg h, List.filter_cons_of_neg h]; simp
theorem wasN_len (S n : Nat) : (wasN S n).length ≤ n := Nat.le_trans (List.length_filter_le _ _) (by simp)
theorem wasN_mem {S n s : Nat} : s ∈ wasN S n ↔ s < n ∧ S.testBit s = true := by unfold wasN; rw [List.mem_filter, List.mem_range]
theorem wasN_nodup (S n : Nat) : (wasN S n).Nodup := List.Pairwise.filter _ List.nodup_range
theorem setList_eq {S n : Nat} (hn : n ≤ 31) (hS : S < 2 ^ n) : impl_SetList (S : Int) = some (ints (wasN S n)) := by
  have h31 : (2 : Nat) ^ 31 = 2147483648 := rfl
  have hSl := lt31 hn hS
  have hw : wasN S 31 = wasN S n := by
    have : ∀ d, n + d ≤ 31 → wasN S (n + d) = wasN S n := by
      intro d
      induction d with
      | zero => intro _; rfl
      | succ d ih =>
        intro hd
        rw [← Nat.add_assoc, wasN_succ, if_neg, ih (by omega)]
        rw [Nat.testBit_lt_two_pow (Nat.lt_of_lt_of_le hS (Nat.pow_le_pow_right (by omega) (by omega)))]
        simp
    have := this (31 - n) (by omega)
    rwa [show n + (31 - n) = 31 by omega] at this
  unfold impl_SetList
  rw [if_neg (by unfold impl_SetOk; rw [inRg]; simp; omega)]
  have L := loop_up (body := fun s : List Int × Int => impl_SetList.b0 (S : Int) s.1 s.2) 31 (fun k => (ints (wasN S k), (k : Int))) (ints (wasN S 31)) (fun k hk => ?_) ?_ 0 (Nat.zero_le _)
  · have L' : loop (fun s : List Int × Int => impl_SetList.b0 (S : Int) s.1 s.2) ([], 0) = _ := L
    rw [L', Option.bind_some, hw]; rfl
  · dsimp only
    unfold impl_SetList.b0
    have hr := wasN_len S k
    rw [if_pos (by omega), has_eq hSl (by omega), Int.toNat_natCast, wasN_succ]
    split
    · rw [app_small (by simp [ints]; omega) (by decide), Option.bind_some, WS (by omega), ints_snoc]
    · rw [WS (by omega)]
  · dsimp only
    unfold impl_SetList.b0
    rw [if_neg (by omega)]
def hopE (s : Nat) (e : TEdge) : Nat := if s.testBit e.from_.toNat = true then s ||| 2 ^ e.to_.toNat else s
def passE (es : List TEdge) (s : Nat) : Nat := es.foldl hopE s
theorem passE_or : ∀ (es : List TEdge) (s : Nat), ∃ t, passE es s = s ||| t ∧ ∀ n, s < 2 ^ n → (∀ e ∈ es, e.to_.toNat < n) → t < 2 ^ n
  | [], s => ⟨0, by simp [passE], fun n _ _ => Nat.two_pow_pos n⟩
  | e :: es, s => by
    obtain ⟨t, h1, h2⟩ := passE_or es (hopE s e)
    have hc : passE (e :: es) s = passE es (hopE s e) := rfl
    rw [hc, h1]
    unfold hopE at h2 ⊢
    split at h2
    · rename_i c
      rw [if_pos c]
      refine ⟨2 ^ e.to_.toNat ||| t, by rw [Nat.or_assoc], fun n hs he => ?_⟩
      have hp : 2 ^ e.to_.toNat < 2 ^ n := Nat.pow_lt_pow_right (by omega) (he e List.mem_cons_self)
      exact or_lt hp (h2 n (or_lt hs hp) fun x hx => he x (List.mem_cons_of_mem _ hx))
    · rename_i c
      rw [if_neg c]
      exact ⟨t, rfl, fun n hs he => h2 n hs fun x hx => he x (List.mem_cons_of_mem _ hx)⟩
def iterE (a : TAuto) : Nat → Nat → Nat
  | 0, s => s
  | k + 1, s => iterE a k (passE a.edges s)
theorem iterE_succ (a : TAuto) : ∀ (k s : Nat), iterE a (k + 1) s = passE a.edges (iterE a k s)
  | 0, s => rfl
  | k + 1, s => by
    show iterE a (k + 1) (passE a.edges s) = _
    rw [iterE_succ a k]; rfl
theorem iterE_lt {a : TAuto} (h : AOk a) {s : Nat} (hs : s < 2 ^ a.states.toNat) : ∀ k, iterE a k s < 2 ^ a.states.toNat
  | 0 => hs
  | k + 1 => by
    rw [iterE_succ]
    obtain ⟨t, h1, h2⟩ := passE_or a.edges (iterE a k s)
    rw [h1]
    exact or_lt (iterE_lt h hs k) (h2 _ (iterE_lt h hs k) fun e he => by have := h.edge e he; omega)
theorem iterE_stop {a : TAuto} {s : Nat} {k : Nat} (h : passE a.edges (iterE a k s) = iterE a k s) : ∀ j, iterE a (k + j) s = iterE a k s
  | 0 => rfl
  | j + 1 => by rw [← Nat.add_assoc, iterE_succ, iterE_stop h j, h]
theorem iterE_card {a : TAuto} (h : AOk a) {s : Nat} (hs : s < 2 ^ a.states.toNat) : ∀ k, (∃ j, j < k ∧ passE a.edges (iterE a j s) = iterE a j s) ∨ k ≤ card a.states.toNat (iterE a k s)
  | 0 => .inr (Nat.zero_le _)
  | k + 1 => by
    rcases iterE_card h hs k with ⟨j, hj, g⟩ | g
    · exact .inl ⟨j, by omega, g⟩
    · by_cases c : passE a.edges (iterE a k s) = iterE a k s
      · exact .inl ⟨k, by omega, c⟩
      · right
        rw [iterE_succ]
        obtain ⟨t, h1, h2⟩ := passE_or a.edges (iterE a k s)
        have hlt := iterE_lt h hs k
        have := card_or hlt (h2 _ hlt fun e he => by have := h.edge e he; omega) (by rw [← h1]; exact c)
        rw [h1]; omega
/-- All that is reached. -/
def reachN (a : TAuto) (s : Nat) : Nat := iterE a (a.states.toNat + 1) s
theorem reachN_lt {a : TAuto} (h : AOk a) {s : Nat} (hs : s < 2 ^ a.states.toNat) : reachN a s < 2 ^ a.states.toNat := iterE_lt h hs _
/-- The reference's. -/
theorem l4Reach_eq {a : TAuto} (h : AOk a) {s : Nat} (hs : s < 2 ^ a.states.toNat) : spec_l4Reach a (s : Int) = some (reachN a s : Int) := by
  have h1 := h.sts; have h2 := h.num
  have h31 : (2 : Nat) ^ 31 = 2147483648 := rfl
  unfold spec_l4Reach
  have hpass : ∀ s : Nat, s < 2 ^ a.states.toNat → loop (fun q : Int × Int => spec_l4Reach.b1 a q.1 q.2) ((s : Int), 0) = some ((passE a.edges s : Nat) : Int) := fun s hs => by
    refine (fold_loopR (fun s : Nat => (s : Int)) (fun s : Nat => (s : Int)) a.edges hopE (fun _ s => s < 2 ^ a.states.toNat) (fun k st hk hi => ?_) (fun st _ => by unfold spec_l4Reach.b1; rw [if_neg (by simp)]) s hs).1
    have he := h.edge _ (getD_memL hk)
    have hst := lt31 (by omega) hi
    constructor
    · unfold spec_l4Reach.b1
      rw [if_pos (by dsimp only; omega), ix_nat hk, Option.bind_some]
      dsimp only
      rw [l1Has_eq hst (by omega), Option.bind_some]
      unfold hopE
      split
      · rw [Option.bind_some, l1Bit_eq (by omega), Option.bind_some, WS (by omega)]
        have hp := pow31 (n := (a.edges.getD k default).to_.toNat) (by omega)
        rw [bOr_i (by omega) (by omega)]
      · rw [WS (by omega)]
    · unfold hopE
      split
      · exact or_lt hi (Nat.pow_lt_pow_right (by omega) (by omega))
      · exact hi
  have key := loop_up (body := fun q : Int × Int => spec_l4Reach.b0 a q.1 q.2) (a.states.toNat + 1) (fun k => ((iterE a k s : Int), (k : Int))) (reachN a s : Int) (fun k hk => ?_) ?_ 0 (Nat.zero_le _)
  · have key' : loop (fun q : Int × Int => spec_l4Reach.b0 a q.1 q.2) ((s : Int), 0) = _ := key
    rw [key']; rfl
  · dsimp only
    unfold spec_l4Reach.b0
    rw [if_pos (by omega), hpass _ (iterE_lt h hs k), Option.bind_some]
    unfold spec_l4Reach.k1
    rw [WS (by omega), iterE_succ]
  · dsimp only
    unfold spec_l4Reach.b0
    rw [if_neg (by omega)]; rfl
/-- The number of members below one. -/
def rankN (S s : Nat) : Nat := (wasN S s).length
theorem wasN_pre (S m d : Nat) : ∃ r, wasN S (m + d) = wasN S m ++ r := by
  unfold wasN
  rw [List.range_add, List.filter_append]; exact ⟨_, rfl⟩
theorem wasN_get {S n s : Nat} (h : s < n) (hs : S.testBit s = true) : rankN S s < (wasN S n).length ∧ (wasN S n).getD (rankN S s) 0 = s := by
  obtain ⟨r, hr⟩ := wasN_pre S (s + 1) (n - (s + 1))
  rw [show s + 1 + (n - (s + 1)) = n by omega, wasN_succ, if_pos hs] at hr
  rw [hr]
  unfold rankN
  constructor
  · simp
  · rw [List.append_assoc, List.getD_eq_getElem?_getD, List.getElem?_append_right (by omega)]; simp
def kst (S st : Nat) : Nat → Nat
  | 0 => 0
  | n + 1 => if (S.testBit n && st.testBit n) = true then kst S st n ||| 2 ^ rankN S n else kst S st n
theorem kst_succ (S st n : Nat) : kst S st (n + 1) = if (S.testBit n && st.testBit n) = true then kst S st n ||| 2 ^ rankN S n else kst S st n := rfl
theorem kst_lt {S st N : Nat} : ∀ n, n ≤ N → kst S st n < 2 ^ N
  | 0, _ => Nat.two_pow_pos N
  | n + 1, h => by
    unfold kst
    have hr := wasN_len S n
    have hp : 2 ^ rankN S n < 2 ^ N := Nat.pow_lt_pow_right (by omega) (by unfold rankN; omega)
    split
    · exact or_lt (kst_lt n (by omega)) hp
    · exact kst_lt n (by omega)
def ist (was : List Nat) (st : Nat) : Nat → Nat
  | 0 => 0
  | k + 1 => if st.testBit (was.getD k 0) = true then ist was st k ||| 2 ^ k else ist was st k
theorem ist_kst (S st n : Nat) : ∀ m, m ≤ n → ist (wasN S n) st (rankN S m) = kst S st m
  | 0, _ => rfl
  | m + 1, h => by
    have ih := ist_kst S st n m (by omega)
    unfold kst
    have e : rankN S (m + 1) = if S.testBit m = true then rankN S m + 1 else rankN S m := by
      unfold rankN; rw [wasN_succ]; split <;> simp
    rw [e]
    by_cases hm : S.testBit m = true
    · rw [if_pos hm]
      have g := (wasN_get (n := n) (by omega) hm).2
      show (if st.testBit ((wasN S n).getD (rankN S m) 0) = true then _ else _) = _
      rw [g, ih, hm, Bool.true_and]
    · rw [if_neg hm, ih]
      rw [if_neg (by simp [hm])]
def keptE (S : Nat) (es : List TEdge) : List TEdge := (es.filter fun e => S.testBit e.from_.toNat && S.testBit e.to_.toNat).map fun e => ⟨rankN S e.from_.toNat, e.letter, rankN S e.to_.toNat, e.good⟩
theorem keptE_snoc (S : Nat) (es : List TEdge) (e : TEdge) : keptE S (es ++ [e]) = if (S.testBit e.from_.toNat && S.testBit e.to_.toNat) = true then keptE S es ++ [⟨rankN S e.from_.toNat, e.letter, rankN S e.to_.toNat, e.good⟩] else keptE S es := by
  unfold keptE
  rw [List.filter_append, List.map_append]
  by_cases h : (S.testBit e.from_.toNat && S.testBit e.to_.toNat) = true
  · have g : List.filter (fun e : TEdge => S.testBit e.from_.toNat && S.testBit e.to_.toNat) [e] = [e] := by simp only [List.filter, h]
    rw [if_pos h, g]; rfl
  · rw [Bool.not_eq_true] at h
    have g : List.filter (fun e : TEdge => S.testBit e.from_.toNat && S.testBit e.to_.toNat) [e] = [] := by simp only [List.filter, h]
    rw [if_neg (by rw [h]; simp), g]; simp
theorem keptE_len (S : Nat) (es : List TEdge) : (keptE S es).length ≤ es.length := by unfold keptE; rw [List.length_map]; exact List.length_filter_le _ _
/-- What is kept. -/
def keptA (a : TAuto) (S : Nat) : TAuto := ⟨a.letters, ((wasN S a.states.toNat).length : Nat), (kst S a.start.toNat a.states.toNat : Nat), keptE S a.edges⟩
def atL (S n : Nat) : List Int := (List.range n).map fun s => (rankN S s : Int)
theorem atL_get {S n s : Nat} (h : s < n) : ix (atL S n) (s : Int) = some (rankN S s : Int) := by
  unfold atL
  rw [ix_nat (by simpa using h)]
  simp [List.getD_eq_getElem?_getD, h]
theorem specKeep_eq {a : TAuto} (h : AOk a) {S : Nat} (hS : S < 2 ^ a.states.toNat) : spec_l4Keep a (S : Int) = some (keptA a S, ints (wasN S a.states.toNat)) := by
  have h1 := h.sts; have h2 := h.num; have h3 := h.start
  have h31 : (2 : Nat) ^ 31 = 2147483648 := rfl
  have hSl := lt31 (by omega) hS
  have e0 : a.start = ((a.start.toNat : Nat) : Int) := by omega
  have hst : a.start.toNat < 2 ^ a.states.toNat := by omega
  have hstl := lt31 (by omega) hst
  unfold spec_l4Keep
  have L2 := loop_up (body := fun s : List Int × List Int × Int => spec_l4Keep.b2 a (S : Int) s.1 s.2.1 s.2.2) a.states.toNat (fun k => (ints (wasN S k), atL S k, (k : Int))) (ints (wasN S a.states.toNat), atL S a.states.toNat) (fun k hk => ?_) ?_ 0 (Nat.zero_le _)
  · have L2' : loop (fun s : List Int × List Int × Int => spec_l4Keep.b2 a (S : Int) s.1 s.2.1 s.2.2) ([], [], 0) = _ := L2
    rw [L2', Option.bind_some]
    unfold spec_l4Keep.k0
    have hwl := wasN_len S a.states.toNat
    have L1 := loop_up (body := fun s : Int × Int × Int × List TEdge × Int => spec_l4Keep.b1 a (S : Int) (atL S a.states.toNat) s.1 s.2.1 s.2.2.1 s.2.2.2.1 s.2.2.2.2) a.states.toNat (fun k => (a.letters, ((wasN S a.states.toNat).length : Int), (kst S a.start.toNat k : Int), ([] : List TEdge), (k : Int))) (a.letters, ((wasN S a.states.toNat).length : Int), (kst S a.start.toNat a.states.toNat : Int), ([] : List TEdge)) (fun k hk => ?_) ?_ 0 (Nat.zero_le _)
    · have L1' : loop (fun s : Int × Int × Int × List TEdge × Int => spec_l4Keep.b1 a (S : Int) (atL S a.states.toNat) s.1 s.2.1 s.2.2.1 s.2.2.2.1 s.2.2.2.2) (a.letters, ((ints (wasN S a.states.toNat)).length : Int), 0, [], 0) = some (a.letters, ((wasN S a.states.toNat).length : Int), (kst S a.start.toNat a.states.toNat : Int), ([] : List TEdge)) := by
        have : ((ints (wasN S a.states.toNat)).length : Int) = ((wasN S a.states.toNat).length : Int) := by simp [ints]
        rw [this]; exact L1
      dsimp only
      rw [L1', Option.bind_some]
      unfold spec_l4Keep.k1
      have L0 := loop_list (body := fun s : Int × Int × Int × List TEdge × Int => spec_l4Keep.b0 a (S : Int) (atL S a.states.toNat) s.1 s.2.1 s.2.2.1 s.2.2.2.1 s.2.2.2.2) a.edges (fun pre => (a.letters, ((wasN S a.states.toNat).length : Int), (kst S a.start.toNat a.states.toNat : Int), keptE S pre, (pre.length : Int))) (a.letters, ((wasN S a.states.toNat).length : Int), (kst S a.start.toNat a.states.toNat : Int), keptE S a.edges) (fun pre e post he => ?_) ?_
      · have L0' : loop (fun s : Int × Int × Int × List TEdge × Int => spec_l4Keep.b0 a (S : Int) (atL S a.states.toNat) s.1 s.2.1 s.2.2.1 s.2.2.2.1 s.2.2.2.2) (a.letters, ((wasN S a.states.toNat).length : Int), (kst S a.start.toNat a.states.toNat : Int), [], 0) = _ := L0
        dsimp only
        rw [L0', Option.bind_some]; rfl
      · dsimp only
        unfold spec_l4Keep.b0
        have hm : e ∈ a.edges := by rw [he]; simp
        have hE := h.edge e hm
        have hlen : pre.length + (post.length + 1) = a.edges.length := by rw [he]; simp
        have hkl := keptE_len S pre
        have w4 : W ((pre.length : Int) + 1) = (((pre ++ [e]).length : Nat) : Int) := by rw [W, W_eq (by omega) (by omega)]; simp
        rw [if_pos (by omega), show ix a.edges (pre.length : Int) = some e by rw [he]; exact ix_mid pre e post, Option.bind_some, l1Has_eq hSl (by omega), Option.bind_some, keptE_snoc]
        have g1 := atL_get (S := S) (n := a.states.toNat) (s := e.from_.toNat) (by omega)
        have g2 := atL_get (S := S) (n := a.states.toNat) (s := e.to_.toNat) (by omega)
        rw [Int.toNat_of_nonneg hE.1.1] at g1
        rw [Int.toNat_of_nonneg hE.2.1.1] at g2
        cases c1 : S.testBit e.from_.toNat with
        | false => rw [whenO_f, Option.bind_some, Bool.false_and, if_neg (by simp), Bool.false_and, if_neg (by simp), w4]
        | true =>
          rw [whenO_t, l1Has_eq hSl (by omega), Option.bind_some, Bool.true_and]
          split
          · rw [g1, Option.bind_some, g2, Option.bind_some, app_small (by simp; omega) (by decide), Option.bind_some, w4]
          · rw [w4]
      · dsimp only
        unfold spec_l4Keep.b0
        rw [if_neg (by omega)]
    · dsimp only
      unfold spec_l4Keep.b1
      have hr := wasN_len S k
      have hp := pow31 (n := rankN S k) (by unfold rankN; omega)
      have hk1 := lt31 (n := a.states.toNat) (by omega) (kst_lt (S := S) (st := a.start.toNat) k (by omega))
      rw [if_pos (by omega), l1Has_eq hSl (by omega), Option.bind_some, Int.toNat_natCast, e0, Int.toNat_natCast, kst_succ]
      cases c1 : S.testBit k with
      | false => rw [whenO_f, Option.bind_some, Bool.false_and, if_neg (by simp), Bool.false_and, if_neg (by simp), WS (by omega)]
      | true =>
        rw [whenO_t, l1Has_eq hstl (by omega), Option.bind_some, Bool.true_and, Int.toNat_natCast, Bool.true_and]
        split
        · rw [atL_get hk, Option.bind_some, l1Bit_eq (by unfold rankN; omega), Option.bind_some, Int.toNat_natCast, bOr_i (by omega) (by omega), WS (by omega)]
        · rw [WS (by omega)]
    · dsimp only
      unfold spec_l4Keep.b1
      rw [if_neg (by omega)]
  · dsimp only
    unfold spec_l4Keep.b2
    have hr := wasN_len S k
    have e1 : atL S (k + 1) = atL S k ++ [((ints (wasN S k)).length : Int)] := by
      unfold atL; rw [List.range_succ, List.map_append]; simp [rankN, ints]
    rw [if_pos (by omega), app_small (by simp [atL]; omega) (by decide), Option.bind_some, l1Has_eq hSl (by omega), Option.bind_some, Int.toNat_natCast, wasN_succ, e1]
    split
    · rw [app_small (by simp [ints]; omega) (by decide), Option.bind_some, WS (by omega), ints_snoc]
    · rw [WS (by omega)]
  · dsimp only
    unfold spec_l4Keep.b2
    rw [if_neg (by omega)]
theorem and_all {S n : Nat} (hS : S < 2 ^ n) : S &&& (2 ^ n - 1) = S := by rw [Nat.and_two_pow_sub_one_eq_mod, Nat.mod_eq_of_lt hS]
theorem implKept_eq {a : TAuto} (h : AOk a) {S : Nat} (hS : S < 2 ^ a.states.toNat) : impl_Auto_kept a (S : Int) = some (keptA a S, ints (wasN S a.states.toNat)) := by
  have h1 := h.sts; have h2 := h.num; have h3 := h.start
  have h31 : (2 : Nat) ^ 31 = 2147483648 := rfl
  have hSl := lt31 (by omega) hS
  have e0 : a.start = ((a.start.toNat : Nat) : Int) := by omega
  have hst : a.start.toNat < 2 ^ a.states.toNat := by omega
  have hstl := lt31 (by omega) hst
  have hp := pow31 (n := a.states.toNat) (by omega)
  have hwl := wasN_len S a.states.toNat
  unfold impl_Auto_kept
  have w0 : W ((impl_only a.states) - 1) = ((2 ^ a.states.toNat - 1 : Nat) : Int) := by
    rw [show a.states = ((a.states.toNat : Nat) : Int) by omega, Int.toNat_natCast]
    have := only_eq (n := a.states.toNat) (by omega)
    rw [this, W, W_eq (by omega) (by omega)]; omega
  rw [w0, bAnd_i (by omega) (by omega), and_all hS, setList_eq (by omega) hS, Option.bind_some, mk_ok (by omega) (by omega), Option.bind_some]
  have hil : (ints (wasN S a.states.toNat)).length = (wasN S a.states.toNat).length := by simp [ints]
  have L1 := loop_inv (body := fun s : Int × Int × Int × List TEdge × List Int × Int => impl_Auto_kept.b1 (ints (wasN S a.states.toNat)) a s.1 s.2.1 s.2.2.1 s.2.2.2.1 s.2.2.2.2.1 s.2.2.2.2.2)
    (fun s => ∃ (k : Nat) (y : List Int), s = (a.letters, ((wasN S a.states.toNat).length : Int), (ist (wasN S a.states.toNat) a.start.toNat k : Int), ([] : List TEdge), y, (k : Int)) ∧ k ≤ (wasN S a.states.toNat).length ∧ y.length = a.states.toNat ∧ ∀ j, j < k → y.getD ((wasN S a.states.toNat).getD j 0) default = (j : Int))
    (fun s => (wasN S a.states.toNat).length - s.2.2.2.2.2.toNat)
    (fun r => ∃ y : List Int, r = (a.letters, ((wasN S a.states.toNat).length : Int), (ist (wasN S a.states.toNat) a.start.toNat (wasN S a.states.toNat).length : Int), ([] : List TEdge), y) ∧ y.length = a.states.toNat ∧ ∀ j, j < (wasN S a.states.toNat).length → y.getD ((wasN S a.states.toNat).getD j 0) default = (j : Int))
    (fun s hs => ?_) (s := (a.letters, ((ints (wasN S a.states.toNat)).length : Int), 0, [], List.replicate a.states.toNat (0 : Int), 0)) ⟨0, List.replicate a.states.toNat (0 : Int), by rw [hil]; rfl, Nat.zero_le _, by simp, fun j hj => by omega⟩
  · obtain ⟨r, hr, y, rfl, hy1, hy2⟩ := L1
    rw [hr, Option.bind_some]
    unfold impl_Auto_kept.k0
    have hyg : ∀ s : Int, 0 ≤ s → s < a.states → S.testBit s.toNat = true → ix y s = some (rankN S s.toNat : Int) := by
      intro s g1 g2 g3
      obtain ⟨k1, k2⟩ := wasN_get (n := a.states.toNat) (s := s.toNat) (by omega) g3
      have := hy2 _ k1
      rw [k2] at this
      rw [ix_ok g1 (by omega), this]
    have L0 := loop_list (body := fun s : Int × Int × Int × List TEdge × Int => impl_Auto_kept.b0 a (S : Int) y s.1 s.2.1 s.2.2.1 s.2.2.2.1 s.2.2.2.2) a.edges (fun pre => (a.letters, ((wasN S a.states.toNat).length : Int), (ist (wasN S a.states.toNat) a.start.toNat (wasN S a.states.toNat).length : Int), keptE S pre, (pre.length : Int))) (a.letters, ((wasN S a.states.toNat).length : Int), (ist (wasN S a.states.toNat) a.start.toNat (wasN S a.states.toNat).length : Int), keptE S a.edges) (fun pre e post he => ?_) ?_
    · have L0' : loop (fun s : Int × Int × Int × List TEdge × Int => impl_Auto_kept.b0 a (S : Int) y s.1 s.2.1 s.2.2.1 s.2.2.2.1 s.2.2.2.2) (a.letters, ((wasN S a.states.toNat).length : Int), (ist (wasN S a.states.toNat) a.start.toNat (wasN S a.states.toNat).length : Int), [], 0) = _ := L0
      rw [L0', Option.bind_some]
      unfold impl_Auto_kept.k1 keptA
      have := ist_kst S a.start.toNat a.states.toNat a.states.toNat (Nat.le_refl _)
      unfold rankN at this
      rw [this]
    · dsimp only
      unfold impl_Auto_kept.b0
      have hm : e ∈ a.edges := by rw [he]; simp
      have hE := h.edge e hm
      have hlen : pre.length + (post.length + 1) = a.edges.length := by rw [he]; simp
      have hkl := keptE_len S pre
      have w4 : W ((pre.length : Int) + 1) = (((pre ++ [e]).length : Nat) : Int) := by rw [W, W_eq (by omega) (by omega)]; simp
      rw [if_pos (by omega), show ix a.edges (pre.length : Int) = some e by rw [he]; exact ix_mid pre e post, Option.bind_some, bnd_eq, has_eq hSl (by omega), has_eq hSl (by omega), keptE_snoc]
      by_cases c : (S.testBit e.from_.toNat && S.testBit e.to_.toNat) = true
      · have c' := c
        rw [Bool.and_eq_true] at c'
        rw [if_pos c, if_pos c, hyg _ hE.1.1 hE.1.2 c'.1, Option.bind_some, hyg _ hE.2.1.1 hE.2.1.2 c'.2, Option.bind_some, app_small (by simp; omega) (by decide), Option.bind_some, w4]
      · rw [if_neg c, if_neg c, w4]
    · dsimp only
      unfold impl_Auto_kept.b0
      rw [if_neg (by omega)]
  · obtain ⟨k, y, rfl, hk, hy1, hy2⟩ := hs
    dsimp only
    unfold impl_Auto_kept.b1
    by_cases c : k < (wasN S a.states.toNat).length
    · right
      have hix : ix (ints (wasN S a.states.toNat)) (k : Int) = some (((wasN S a.states.toNat).getD k 0 : Nat) : Int) := ints_get c
      have hmem : (wasN S a.states.toNat).getD k 0 ∈ wasN S a.states.toNat := by
        rw [List.getD_eq_getElem?_getD, List.getElem?_eq_getElem c]; exact List.getElem_mem c
      have hw := wasN_mem.mp hmem
      have hok : ck (((wasN S a.states.toNat).getD k 0 : Nat) : Int) y.length = some ((wasN S a.states.toNat).getD k 0) := ck_nat (by omega)
      have hnew : ∀ j, j < k + 1 → (y.set ((wasN S a.states.toNat).getD k 0) (k : Int)).getD ((wasN S a.states.toNat).getD j 0) default = (j : Int) := by
        intro j hj
        by_cases e : j = k
        · subst e
          rw [List.getD_eq_getElem?_getD, List.getElem?_set_self (by omega)]; rfl
        · have hne : (wasN S a.states.toNat).getD k 0 ≠ (wasN S a.states.toNat).getD j 0 := by
            intro g
            have hjl : j < (wasN S a.states.toNat).length := by omega
            rw [List.getD_eq_getElem?_getD, List.getD_eq_getElem?_getD, List.getElem?_eq_getElem c, List.getElem?_eq_getElem hjl] at g
            exact e ((List.getElem_inj (wasN_nodup S _)).mp g.symm)
          rw [List.getD_eq_getElem?_getD, List.getElem?_set_ne hne, ← List.getD_eq_getElem?_getD]
          exact hy2 j (by omega)
      rw [if_pos (by rw [hil]; omega), hix, Option.bind_some, hok, Option.bind_some, e0, has_eq hstl (by omega), Int.toNat_natCast, Int.toNat_natCast]
      have hil2 : ist (wasN S a.states.toNat) a.start.toNat k < 2 ^ 31 := by
        have : ∀ q, q ≤ a.states.toNat → ist (wasN S a.states.toNat) a.start.toNat q < 2 ^ a.states.toNat := by
          intro q
          induction q with
          | zero => intro _; exact Nat.two_pow_pos _
          | succ q ih =>
            intro hq
            unfold ist
            split
            · exact or_lt (ih (by omega)) (Nat.pow_lt_pow_right (by omega) (by omega))
            · exact ih (by omega)
        exact lt31 (by omega) (this k (by omega))
      have hpk := pow31 (n := k) (by omega)
      by_cases c2 : a.start.toNat.testBit ((wasN S a.states.toNat).getD k 0) = true
      · rw [if_pos c2]
        have ho : impl_only ((k : Nat) : Int) = ((2 ^ k : Nat) : Int) := only_eq (n := k) (by omega)
        rw [ho, bOr_i (by omega) (by omega), WS (by omega)]
        refine ⟨_, rfl, ⟨k + 1, _, ?_, by omega, by simpa using hy1, hnew⟩, by dsimp only; omega⟩
        have : ist (wasN S a.states.toNat) a.start.toNat (k + 1) = ist (wasN S a.states.toNat) a.start.toNat k ||| 2 ^ k := by
          show (if _ then _ else _) = _
          rw [if_pos c2]
        rw [this]
      · rw [if_neg c2, WS (by omega)]
        refine ⟨_, rfl, ⟨k + 1, _, ?_, by omega, by simpa using hy1, hnew⟩, by dsimp only; omega⟩
        have : ist (wasN S a.states.toNat) a.start.toNat (k + 1) = ist (wasN S a.states.toNat) a.start.toNat k := by
          show (if _ then _ else _) = _
          rw [if_neg c2]
        rw [this]
    · left
      obtain rfl : k = (wasN S a.states.toNat).length := by omega
      rw [if_neg (by rw [hil]; omega)]
      exact ⟨_, rfl, y, rfl, hy1, hy2⟩
theorem reach_eq {a : TAuto} (h : AOk a) {s : Nat} (hs : s < 2 ^ a.states.toNat) : impl_Auto_reach a (s : Int) = some (reachN a s : Int) := by
  have h1 := h.sts; have h2 := h.num
  have h31 : (2 : Nat) ^ 31 = 2147483648 := rfl
  unfold impl_Auto_reach
  have hpass : ∀ s : Nat, s < 2 ^ a.states.toNat → loop (fun q : Int × Int => impl_Auto_reach.b1 a q.1 q.2) ((s : Int), 0) = some ((passE a.edges s : Nat) : Int) := fun s hs => by
    refine (fold_loopR (fun s : Nat => (s : Int)) (fun s : Nat => (s : Int)) a.edges hopE (fun _ s => s < 2 ^ a.states.toNat) (fun k st hk hi => ?_) (fun st _ => by unfold impl_Auto_reach.b1; rw [if_neg (by simp)]) s hs).1
    have he := h.edge _ (getD_memL hk)
    have hst := lt31 (by omega) hi
    constructor
    · unfold impl_Auto_reach.b1
      rw [if_pos (by dsimp only; omega), ix_nat hk, Option.bind_some]
      dsimp only
      rw [has_eq hst (by omega)]
      unfold hopE
      split
      · have hp := pow31 (n := (a.edges.getD k default).to_.toNat) (by omega)
        rw [show (a.edges.getD k default).to_ = (((a.edges.getD k default).to_.toNat : Nat) : Int) by omega, Int.toNat_natCast, only_eq (by omega), bOr_i (by omega) (by omega), WS (by omega)]
      · rw [WS (by omega)]
    · unfold hopE
      split
      · exact or_lt hi (Nat.pow_lt_pow_right (by omega) (by omega))
      · exact hi
  have key : ∃ r, loop (fun s : Int => impl_Auto_reach.b0 a s) (s : Int) = some r ∧ r = (reachN a s : Int) := by
    refine loop_inv (body := fun s : Int => impl_Auto_reach.b0 a s) (fun x => ∃ k : Nat, x = (iterE a k s : Int) ∧ ∀ j, j < k → passE a.edges (iterE a j s) ≠ iterE a j s) (fun x => a.states.toNat - card a.states.toNat x.toNat) (fun r => r = (reachN a s : Int)) (fun x hx => ?_) ⟨0, rfl, fun j hj => by omega⟩
    obtain ⟨k, rfl, hk⟩ := hx
    have hlt := iterE_lt h hs k
    unfold impl_Auto_reach.b0
    rw [hpass _ hlt, Option.bind_some]
    unfold impl_Auto_reach.k0
    by_cases c : passE a.edges (iterE a k s) = iterE a k s
    · left
      rw [if_pos (by rw [c])]
      refine ⟨_, rfl, ?_⟩
      congr 1
      unfold reachN
      rcases iterE_card h hs k with ⟨j, hj, g⟩ | g
      · exact absurd g (hk j hj)
      · have := card_le a.states.toNat (iterE a k s)
        have e : a.states.toNat + 1 = k + (a.states.toNat + 1 - k) := by omega
        rw [e, iterE_stop c]
    · right
      rw [if_neg (by omega)]
      refine ⟨_, rfl, ⟨k + 1, by rw [iterE_succ], fun j hj => ?_⟩, ?_⟩
      · by_cases e : j = k
        · subst e; exact c
        · exact hk j (by omega)
      · obtain ⟨t, g1, g2⟩ := passE_or a.edges (iterE a k s)
        have := card_or hlt (g2 _ hlt fun e he => by have := h.edge e he; omega) (by rw [← g1]; exact c)
        rw [← g1] at this
        have h2 := card_le a.states.toNat (passE a.edges (iterE a k s))
        rw [Int.toNat_natCast, Int.toNat_natCast]; omega
  obtain ⟨r, e, rfl⟩ := key
  rw [e]; rfl
end Go.Proofs.YthdoebgikbfndaaGreat
end

/- An automaton of many marks made one of one mark: both sides come to the same. -/
section
namespace Go.Proofs.YthdoebgikbfndaaGreat
open Go Go.RowKit E
set_option linter.unusedVariables false
set_option linter.unusedSectionVars false

/-- The mark that is waited for. -/
def waitN (m : Nat) : Nat → Nat → Nat
  | k, 0 => k
  | k, d + 1 => if m.testBit k = true then waitN m (k + 1) d else k
theorem waitN_le (m : Nat) : ∀ (d k : Nat), k ≤ waitN m k d ∧ waitN m k d ≤ k + d
  | 0, k => by simp [waitN]
  | d + 1, k => by
    have := waitN_le m d (k + 1)
    unfold waitN
    split <;> omega
theorem specWait_eq {g : TGen} {e : TGEdge} {T m : Nat} (hT : g.sets = (T : Int)) (h4 : T ≤ 4) (hm : e.marks = (m : Int)) (hb : m < 2 ^ 31) : ∀ (d k : Nat), k + d = T → loop (fun s : Int => spec_GenDegen.b2 g e s) (k : Int) = some ((waitN m k d : Nat) : Int)
  | 0, k, h => loop_end (by unfold spec_GenDegen.b2; rw [hT, bnd_eq, decide_eq_false (by omega), whenO_f]; rfl)
  | d + 1, k, h => by
    have hh := l1Has_eq hb (x := (k : Int)) (by omega)
    rw [Int.toNat_natCast] at hh
    unfold waitN
    by_cases c : m.testBit k = true
    · rw [if_pos c, ← specWait_eq hT h4 hm hb d (k + 1) (by omega)]
      refine loop_go ?_
      unfold spec_GenDegen.b2
      rw [hT, bnd_eq, decide_eq_true (by omega), whenO_t, hm, hh, Option.bind_some, c, if_pos (by simp), WN (by omega)]
    · rw [if_neg c]
      refine loop_end ?_
      unfold spec_GenDegen.b2
      rw [hT, bnd_eq, decide_eq_true (by omega), whenO_t, hm, hh, Option.bind_some, if_neg (by simpa using c)]
theorem implWait_loop {T m : Nat} (h4 : T ≤ 4) (hb : m < 2 ^ 31) : ∀ (d k : Nat), k + d = T → loop (fun s : Int => impl_waitFor.b0 (T : Int) (m : Int) s) (k : Int) = some ((waitN m k d : Nat) : Int)
  | 0, k, h => loop_end (by unfold impl_waitFor.b0; rw [bnd_eq, decide_eq_false (by omega)]; rfl)
  | d + 1, k, h => by
    have hh := has_eq hb (x := (k : Int)) (by omega)
    rw [Int.toNat_natCast] at hh
    unfold waitN
    by_cases c : m.testBit k = true
    · rw [if_pos c, ← implWait_loop h4 hb d (k + 1) (by omega)]
      refine loop_go ?_
      unfold impl_waitFor.b0
      rw [bnd_eq, decide_eq_true (by omega), hh, c, if_pos (by simp), WN (by omega)]
    · rw [if_neg c]
      refine loop_end ?_
      unfold impl_waitFor.b0
      rw [bnd_eq, decide_eq_true (by omega), hh, if_neg (by simpa using c)]

section
variable (T n : Nat)
/-- Where an edge leads, by the mark waited for. -/
def nextJ (e : TGEdge) (k : Nat) : Nat := if waitN e.marks.toNat k (T - k) = T then 0 else waitN e.marks.toNat k (T - k)
def degE (e : TGEdge) (k : Nat) : TEdge := ⟨((e.from_.toNat * n + k : Nat) : Int), e.letter, ((e.to_.toNat * n + nextJ T e k : Nat) : Int), decide (waitN e.marks.toNat k (T - k) = T)⟩
def degRow (e : TGEdge) (j : Nat) : List TEdge := (List.range j).map (degE T n e)
def degL (es : List TGEdge) : List TEdge := es.flatMap fun e => degRow T n e n
theorem degRow_succ (e : TGEdge) (j : Nat) : degRow T n e (j + 1) = degRow T n e j ++ [degE T n e j] := by
  unfold degRow; rw [List.range_succ, List.map_append]; rfl
theorem degL_len (es : List TGEdge) : (degL T n es).length = es.length * n := by
  unfold degL
  induction es with
  | nil => simp
  | cons e es ih => rw [List.flatMap_cons, List.length_append, ih, List.length_cons, Nat.succ_mul]; unfold degRow; simp; omega
theorem degL_snoc (es : List TGEdge) (e : TGEdge) : degL T n (es ++ [e]) = degL T n es ++ degRow T n e n := by
  unfold degL; rw [List.flatMap_append]; simp
def startN (S st : Nat) : Nat := (List.range S).foldl (fun s k => if st.testBit k = true then s ||| 2 ^ (k * n) else s) 0
end
theorem startN_lt {n S st : Nat} (hn : 1 ≤ n) : startN n S st < 2 ^ (S * n) := by
  unfold startN
  have key : ∀ m, m ≤ S → (List.range m).foldl (fun s k => if st.testBit k = true then s ||| 2 ^ (k * n) else s) 0 < 2 ^ (S * n) := by
    intro m
    induction m with
    | zero => intro _; exact Nat.two_pow_pos _
    | succ m ih =>
      intro hm
      rw [List.range_succ, List.foldl_append, List.foldl_cons, List.foldl_nil]
      have h1 := ih (by omega)
      split
      · refine Nat.or_lt_two_pow h1 (Nat.pow_lt_pow_right (by omega) ?_)
        exact Nat.mul_lt_mul_of_pos_right (by omega) (by omega)
      · exact h1
  exact key S (Nat.le_refl _)
theorem startN_one {S st : Nat} (h : st < 2 ^ S) : startN 1 S st = st := by
  have e : startN 1 S st = setOf (fun k => st.testBit k) S := by unfold startN setOf; simp
  rw [e]
  refine Nat.eq_of_testBit_eq fun i => ?_
  rw [setOf_bit]
  by_cases c : i < S
  · rw [decide_eq_true c, Bool.true_and]
  · rw [decide_eq_false c, Bool.false_and]
    exact (Nat.testBit_lt_two_pow (Nat.lt_of_lt_of_le h (Nat.pow_le_pow_right (by omega) (by omega)))).symm
theorem startN_was {n S st : Nat} : (wasN st S).foldl (fun s v => s ||| 2 ^ (v * n)) 0 = startN n S st := by
  unfold startN
  induction S with
  | zero => rfl
  | succ S ih =>
    rw [wasN_succ, List.range_succ, List.foldl_append, List.foldl_cons, List.foldl_nil, ← ih]
    by_cases c : st.testBit S = true
    · rw [if_pos c, if_pos c, List.foldl_append]; rfl
    · rw [if_neg c, if_neg c]

/-- What is known of a right one. -/
structure DG (g : TGen) (S L T n : Nat) : Prop where
  S_ : g.states = (S : Int)
  L_ : g.letters = (L : Int)
  T_ : g.sets = (T : Int)
  n_ : n = max T 1
  bS : 1 ≤ S ∧ S ≤ 31
  bL : 1 ≤ L ∧ L ≤ 8
  bT : T ≤ 4
  start : 0 ≤ g.start ∧ g.start < ((2 ^ S : Nat) : Int)
  num : g.edges.length ≤ 2000
  edge : ∀ e ∈ g.edges, (0 ≤ e.from_ ∧ e.from_ < S) ∧ (0 ≤ e.to_ ∧ e.to_ < S) ∧ (0 ≤ e.letter ∧ e.letter < L) ∧ (0 ≤ e.marks ∧ e.marks < ((2 ^ T : Nat) : Int))
  sorted : g.edges.Pairwise fun a b => edgeLt (gEdge a) (gEdge b) = true

section
variable {g : TGen} {S L T n : Nat} (D : DG g S L T n)
include D
theorem DG.marks {e : TGEdge} (he : e ∈ g.edges) : e.marks = ((e.marks.toNat : Nat) : Int) ∧ e.marks.toNat < 2 ^ 31 := by
  have h := (D.edge e he).2.2.2
  have h2 : 2 ^ T ≤ 2 ^ 4 := Nat.pow_le_pow_right (by omega) D.bT
  have : (2 : Nat) ^ 31 = 2147483648 := rfl
  omega
theorem DG.nle : 1 ≤ n ∧ n ≤ 4 ∧ T ≤ n := by have := D.n_; have := D.bT; omega
theorem DG.kT {k : Nat} (hk : k < n) : k + (T - k) = T := by have := D.n_; omega
theorem DG.nextJ_lt (e : TGEdge) {k : Nat} (hk : k < n) : nextJ T e k < n := by
  have := D.n_
  have h := waitN_le e.marks.toNat (T - k) k
  have := D.kT hk
  unfold nextJ
  split <;> omega
theorem DG.W1 {x : Int} {y j : Nat} (hx : x = (y : Int)) (hy : y ≤ 31) (hj : j ≤ 4) : W (W (x * (n : Int)) + (j : Int)) = ((y * n + j : Nat) : Int) := by
  have hn := D.nle
  subst hx
  have b1 : y * n ≤ 31 * 4 := Nat.mul_le_mul hy hn.2.1
  have e1 : (y : Int) * (n : Int) = ((y * n : Nat) : Int) := by push_cast; rfl
  have wn : ∀ x : Nat, x ≤ 1000000 → W (x : Int) = (x : Int) := fun x h => W_eq (by omega) (by omega)
  have e2 : ((y * n : Nat) : Int) + (j : Int) = ((y * n + j : Nat) : Int) := by omega
  rw [e1, wn _ (by omega), e2, wn _ (by omega)]

theorem DG.spec_row {e : TGEdge} (he : e ∈ g.edges) (acc : List TEdge) (ha : acc.length ≤ 100000) : loop (fun s : List TEdge × Int => spec_GenDegen.b1 g e s.1 s.2) (acc, 0) = some (acc ++ degRow T n e n) := by
  have hn := D.nle
  have hE := D.edge e he
  have hM := D.marks he
  have hbS := D.bS
  have hT := D.T_
  have hmx : spec_l1Max g.sets 1 = (n : Int) := by have := D.n_; unfold spec_l1Max; rw [hT]; split <;> omega
  have h := loop_up (body := fun s : List TEdge × Int => spec_GenDegen.b1 g e s.1 s.2) n (fun j => (acc ++ degRow T n e j, (j : Int))) (acc ++ degRow T n e n) (fun k hk => by
      have hw := specWait_eq hT D.bT hM.1 hM.2 (T - k) k (D.kT hk)
      have hle := waitN_le e.marks.toNat (T - k) k
      have hkT := D.kT hk
      have hj := D.nextJ_lt e hk
      have hl : (degRow T n e k).length = k := by unfold degRow; simp
      have f1 := D.W1 (x := e.from_) (y := e.from_.toNat) (j := k) (by omega) (by omega) (by omega)
      have f2 := D.W1 (x := e.to_) (y := e.to_.toNat) (j := nextJ T e k) (by omega) (by omega) (by omega)
      dsimp only
      unfold spec_GenDegen.b1
      rw [hmx, if_pos (by omega), hw, Option.bind_some, degRow_succ]
      unfold spec_GenDegen.k4 spec_GenDegen.k5 spec_GenDegen.k3
      rw [hmx, hT, f1]
      unfold nextJ at f2
      by_cases c : waitN e.marks.toNat k (T - k) = T
      · rw [if_pos c] at f2
        rw [c, if_pos (by omega), show ((0 : Int)) = ((0 : Nat) : Int) from rfl, f2, app_small (by simp; omega) (by omega), Option.bind_some, WN (by omega), List.append_assoc, decide_eq_true (by omega)]
        unfold degE nextJ
        rw [if_pos c, decide_eq_true c]
      · rw [if_neg c] at f2
        rw [if_neg (by omega), f2, app_small (by simp; omega) (by omega), Option.bind_some, WN (by omega), List.append_assoc, decide_eq_false (by omega)]
        unfold degE nextJ
        rw [if_neg c, decide_eq_false c]) (by dsimp only; unfold spec_GenDegen.b1; rw [hmx, if_neg (by omega)]) 0 (Nat.zero_le _)
  have e0 : acc ++ degRow T n e 0 = acc := by simp [degRow]
  rw [e0] at h
  exact h
theorem DG.impl_row {e : TGEdge} (he : e ∈ g.edges) (a b c : Int) (acc : List TEdge) (ha : acc.length ≤ 100000) : loop (fun s : Int × Int × Int × List TEdge × Int => impl_GenDegen.b1 g e s.1 s.2.1 s.2.2.1 s.2.2.2.1 s.2.2.2.2) (a, b, c, acc, 0) = some (a, b, c, acc ++ degRow T n e n) := by
  have hn := D.nle
  have hE := D.edge e he
  have hM := D.marks he
  have hbS := D.bS
  have hT := D.T_
  have hmx : mx g.sets 1 = (n : Int) := by have := D.n_; rw [mx_max, hT]; omega
  have h := loop_up (body := fun s : Int × Int × Int × List TEdge × Int => impl_GenDegen.b1 g e s.1 s.2.1 s.2.2.1 s.2.2.2.1 s.2.2.2.2) n (fun j => (a, b, c, acc ++ degRow T n e j, (j : Int))) (a, b, c, acc ++ degRow T n e n) (fun k hk => by
      have hw := implWait_loop D.bT hM.2 (T - k) k (D.kT hk)
      rw [← hM.1] at hw
      have hle := waitN_le e.marks.toNat (T - k) k
      have hkT := D.kT hk
      have hj := D.nextJ_lt e hk
      have hl : (degRow T n e k).length = k := by unfold degRow; simp
      have f1 := D.W1 (x := e.from_) (y := e.from_.toNat) (j := k) (by omega) (by omega) (by omega)
      have f2 := D.W1 (x := e.to_) (y := e.to_.toNat) (j := nextJ T e k) (by omega) (by omega) (by omega)
      dsimp only
      unfold impl_GenDegen.b1
      rw [hmx, if_pos (by omega), degRow_succ]
      unfold impl_waitFor
      rw [hT, hw, Option.bind_some]
      unfold impl_waitFor.k0
      unfold nextJ at f2
      by_cases c : waitN e.marks.toNat k (T - k) = T
      · rw [if_pos c] at f2
        rw [c, if_pos rfl, Option.bind_some, f1]
        dsimp only
        rw [show ((0 : Int)) = ((0 : Nat) : Int) from rfl, f2, app_small (by simp; omega) (by omega), Option.bind_some, WN (by omega), List.append_assoc]
        unfold degE nextJ
        rw [if_pos c, decide_eq_true c]
      · rw [if_neg c] at f2
        rw [if_neg (by omega), Option.bind_some, f1]
        dsimp only
        rw [f2, app_small (by simp; omega) (by omega), Option.bind_some, WN (by omega), List.append_assoc]
        unfold degE nextJ
        rw [if_neg c, decide_eq_false c]) (by dsimp only; unfold impl_GenDegen.b1; rw [hmx, if_neg (by omega)]) 0 (Nat.zero_le _)
  have e0 : acc ++ degRow T n e 0 = acc := by simp [degRow]
  rw [e0] at h
  exact h
end
end Go.Proofs.YthdoebgikbfndaaGreat
end

/- An automaton of many marks made one of one mark: all of it. -/
section
namespace Go.Proofs.YthdoebgikbfndaaGreat
open Go Go.RowKit E
set_option linter.unusedVariables false
set_option linter.unusedSectionVars false

section
variable {g : TGen} {S L T n : Nat} (D : DG g S L T n) (hn : g.edges.length * n ≤ 2000)
include D
theorem DG.take_len (hn : g.edges.length * n ≤ 2000) {k : Nat} (hk : k ≤ g.edges.length) : (degL T n (g.edges.take k)).length ≤ 2000 := by
  rw [degL_len, List.length_take]
  exact Nat.le_trans (Nat.mul_le_mul_right _ (Nat.min_le_right _ _)) hn
theorem DG.spec_all (hn : g.edges.length * n ≤ 2000) : loop (fun s : List TEdge × Int => spec_GenDegen.b0 g s.1 s.2) ([], 0) = some (degL T n g.edges) := by
  have hnum := D.num
  have h := loop_up (body := fun s : List TEdge × Int => spec_GenDegen.b0 g s.1 s.2) g.edges.length (fun k => (degL T n (g.edges.take k), (k : Int))) (degL T n g.edges) (fun k hk => by
      have hl := D.take_len hn (Nat.le_of_lt hk)
      have hd : g.edges.getD k default = g.edges[k] := by simp [List.getD_eq_getElem?_getD, hk]
      dsimp only
      unfold spec_GenDegen.b0
      rw [if_pos (by omega), ix_nat hk, Option.bind_some, hd, D.spec_row (List.getElem_mem hk) _ (by omega), Option.bind_some]
      unfold spec_GenDegen.k2
      rw [WN (by omega), List.take_succ_eq_append_getElem hk, degL_snoc]) (by dsimp only; unfold spec_GenDegen.b0; rw [if_neg (by omega), List.take_length]) 0 (Nat.zero_le _)
  exact h
theorem DG.impl_all (hn : g.edges.length * n ≤ 2000) (a b c : Int) : loop (fun s : Int × Int × Int × List TEdge × Int => impl_GenDegen.b0 g s.1 s.2.1 s.2.2.1 s.2.2.2.1 s.2.2.2.2) (a, b, c, [], 0) = some (a, b, c, degL T n g.edges) := by
  have hnum := D.num
  have h := loop_up (body := fun s : Int × Int × Int × List TEdge × Int => impl_GenDegen.b0 g s.1 s.2.1 s.2.2.1 s.2.2.2.1 s.2.2.2.2) g.edges.length (fun k => (a, b, c, degL T n (g.edges.take k), (k : Int))) (a, b, c, degL T n g.edges) (fun k hk => by
      have hl := D.take_len hn (Nat.le_of_lt hk)
      have hd : g.edges.getD k default = g.edges[k] := by simp [List.getD_eq_getElem?_getD, hk]
      dsimp only
      unfold impl_GenDegen.b0
      rw [if_pos (by omega), ix_nat hk, Option.bind_some, hd, D.impl_row (List.getElem_mem hk) _ _ _ _ (by omega), Option.bind_some]
      unfold impl_GenDegen.k2
      rw [WN (by omega), List.take_succ_eq_append_getElem hk, degL_snoc]) (by dsimp only; unfold impl_GenDegen.b0; rw [if_neg (by omega), List.take_length]) 0 (Nat.zero_le _)
  exact h
theorem DG.kn_lt (hs : S * n ≤ 31) {k : Nat} (hk : k < S) : k * n ≤ 30 ∧ k * n < S * n := by
  have h1 := D.nle.1
  have : k * n < S * n := Nat.mul_lt_mul_of_pos_right hk (by omega)
  omega
theorem DG.WK (hs : S * n ≤ 31) {k : Nat} (hk : k < S) : W ((k : Int) * (n : Int)) = ((k * n : Nat) : Int) := by
  have := (D.kn_lt hs hk).1
  rw [show (k : Int) * (n : Int) = ((k * n : Nat) : Int) by push_cast; rfl, W, W_eq (by omega) (by omega)]
theorem DG.spec_start (hs : S * n ≤ 31) : loop (fun s : Int × Int => spec_GenDegen.b3 g s.1 s.2) (0, 0) = some ((startN n S g.start.toNat : Nat) : Int) := by
  have hst := D.start
  have hbS := D.bS
  have p31 : (2 : Nat) ^ 31 = 2147483648 := rfl
  have pS : (2 : Nat) ^ S ≤ 2 ^ 31 := Nat.pow_le_pow_right (by omega) hbS.2
  have pN : (2 : Nat) ^ (S * n) ≤ 2 ^ 31 := Nat.pow_le_pow_right (by omega) hs
  have hmx : spec_l1Max g.sets 1 = (n : Int) := by have := D.n_; unfold spec_l1Max; rw [D.T_]; split <;> omega
  have h := range_loopR (fun s : Nat => (s : Int)) (fun s : Nat => (s : Int)) S (fun s k => if g.start.toNat.testBit k = true then s ||| 2 ^ (k * n) else s) (fun _ s => s < 2 ^ (S * n)) (body := fun s : Int × Int => spec_GenDegen.b3 g s.1 s.2) (fun k s hk hi => by
      have hkn := D.kn_lt hs hk
      have hh := l1Has_eq (s := g.start.toNat) (by omega) (x := (k : Int)) (by omega)
      rw [Int.toNat_natCast, show ((g.start.toNat : Nat) : Int) = g.start by omega] at hh
      have hb := l1Bit_eq (x := ((k * n : Nat) : Int)) (by omega)
      rw [Int.toNat_natCast] at hb
      have h2 : 2 ^ (k * n) < 2 ^ (S * n) := Nat.pow_lt_pow_right (by omega) hkn.2
      refine ⟨?_, ?_⟩
      · dsimp only
        unfold spec_GenDegen.b3
        rw [D.S_, if_pos (by omega), hh, Option.bind_some, hmx, D.WK hs hk, hb, WN (by omega)]
        by_cases c : g.start.toNat.testBit k = true
        · rw [if_pos c, if_pos c, Option.bind_some, bOr_i (by omega) (by omega)]
        · rw [if_neg c, if_neg c]
      · skip
        split
        · exact Nat.or_lt_two_pow hi h2
        · exact hi) (fun s _ => by dsimp only; unfold spec_GenDegen.b3; rw [D.S_, if_neg (by omega)]) 0 (Nat.two_pow_pos _)
  exact h.1
theorem DG.impl_start (hs : S * n ≤ 31) (a b : Int) : loop (fun s : Int × Int × Int × List TEdge × Int => impl_GenDegen.b2 (ints (wasN g.start.toNat S)) g s.1 s.2.1 s.2.2.1 s.2.2.2.1 s.2.2.2.2) (a, b, 0, [], 0) = some (0, 0, 0, [], a, b, ((startN n S g.start.toNat : Nat) : Int), []) := by
  have hbS := D.bS
  have p31 : (2 : Nat) ^ 31 = 2147483648 := rfl
  have pN : (2 : Nat) ^ (S * n) ≤ 2 ^ 31 := Nat.pow_le_pow_right (by omega) hs
  have hmx : mx g.sets 1 = (n : Int) := by have := D.n_; rw [mx_max, D.T_]; omega
  have hlen := wasN_len g.start.toNat S
  have hmem : ∀ v ∈ wasN g.start.toNat S, v < S := fun v hv => (wasN_mem.mp hv).1
  rw [← startN_was]
  generalize wasN g.start.toNat S = ws at *
  have hlt : ∀ k, (ws.take k).foldl (fun s v => s ||| 2 ^ (v * n)) 0 < 2 ^ (S * n) := fun k => by
    have key : ∀ (l : List Nat) (s : Nat), (∀ v ∈ l, v < S) → s < 2 ^ (S * n) → l.foldl (fun s v => s ||| 2 ^ (v * n)) s < 2 ^ (S * n) := by
      intro l
      induction l with
      | nil => intro s _ h; exact h
      | cons v l ih =>
        intro s hl h
        rw [List.foldl_cons]
        exact ih _ (fun x hx => hl x (List.mem_cons_of_mem _ hx)) (Nat.or_lt_two_pow h (Nat.pow_lt_pow_right (by omega) (D.kn_lt hs (hl v List.mem_cons_self)).2))
    exact key _ 0 (fun v hv => hmem v (List.mem_of_mem_take hv)) (Nat.two_pow_pos _)
  have h := loop_up (body := fun s : Int × Int × Int × List TEdge × Int => impl_GenDegen.b2 (ints ws) g s.1 s.2.1 s.2.2.1 s.2.2.2.1 s.2.2.2.2) ws.length (fun k => (a, b, (((ws.take k).foldl (fun s v => s ||| 2 ^ (v * n)) 0 : Nat) : Int), [], (k : Int))) (0, 0, 0, [], a, b, ((ws.foldl (fun s v => s ||| 2 ^ (v * n)) 0 : Nat) : Int), []) (fun k hk => by
      have hd : ws.getD k 0 = ws[k] := by simp [List.getD_eq_getElem?_getD, hk]
      have hv := hmem _ (List.getElem_mem hk)
      have hkn := D.kn_lt hs hv
      have h2 : 2 ^ (ws[k] * n) < 2 ^ (S * n) := Nat.pow_lt_pow_right (by omega) hkn.2
      have h3 := hlt k
      dsimp only
      unfold impl_GenDegen.b2
      rw [if_pos (by simp; omega), ints_get hk, Option.bind_some, hd, hmx, D.WK hs hv, only_eq (by omega), bOr_i (by omega) (by omega), WN (by omega), List.take_succ_eq_append_getElem hk, List.foldl_append]
      rfl) (by dsimp only; unfold impl_GenDegen.b2; rw [if_neg (by simp), List.take_length]) 0 (Nat.zero_le _)
  exact h
theorem DG.edges_ok : ∀ e ∈ degL T n g.edges, EE (S * n) L e := by
  intro e he
  unfold degL degRow at he
  obtain ⟨x, hx, he⟩ := List.mem_flatMap.mp he
  obtain ⟨k, hk, rfl⟩ := List.mem_map.mp he
  rw [List.mem_range] at hk
  obtain ⟨h1, h2, h3, _⟩ := D.edge x hx
  have hj := D.nextJ_lt x hk
  have key : ∀ y j, y < S → j < n → y * n + j < S * n := fun y j hy hj => by
    have : (y + 1) * n ≤ S * n := Nat.mul_le_mul_right _ hy
    rw [Nat.succ_mul] at this
    omega
  have k1 := key x.from_.toNat k (by omega) hk
  have k2 := key x.to_.toNat (nextJ T x k) (by omega) hj
  unfold degE
  exact ⟨by simp only; omega, by simp only; omega, by simp only; omega⟩
theorem digit_eq {n q r q' r' : Nat} (hr : r < n) (hr' : r' < n) (h : q * n + r = q' * n + r') : q = q' ∧ r = r' := by
  have hn : 0 < n := by omega
  have e1 : (q * n + r) / n = q := by rw [Nat.add_comm, Nat.add_mul_div_right _ _ hn, Nat.div_eq_of_lt hr, Nat.zero_add]
  have e2 : (q' * n + r') / n = q' := by rw [Nat.add_comm, Nat.add_mul_div_right _ _ hn, Nat.div_eq_of_lt hr', Nat.zero_add]
  have e3 : q = q' := by rw [← e1, h, e2]
  subst e3
  exact ⟨rfl, by omega⟩
theorem DG.edges_key : (degL T n g.edges).Pairwise fun a b => ¬ (a.from_ = b.from_ ∧ a.letter = b.letter ∧ a.to_ = b.to_) := by
  unfold degL
  rw [List.pairwise_flatMap]
  refine ⟨fun e he => ?_, ?_⟩
  · unfold degRow
    rw [List.pairwise_map]
    refine List.pairwise_lt_range.imp fun {i j} hij h => ?_
    unfold degE at h
    simp only at h
    omega
  · refine D.sorted.imp_of_mem fun {a b} ha hb hab => ?_
    intro x hx y hy h
    unfold degRow at hx hy
    obtain ⟨i, hi, rfl⟩ := List.mem_map.mp hx
    obtain ⟨j, hj, rfl⟩ := List.mem_map.mp hy
    rw [List.mem_range] at hi hj
    have ea := D.edge a ha
    have eb := D.edge b hb
    unfold degE at h
    simp only at h
    obtain ⟨h1, h2, h3⟩ := h
    have d1 := digit_eq (D := D) hi hj (Int.ofNat_inj.mp h1)
    have d2 := digit_eq (D := D) (D.nextJ_lt a hi) (D.nextJ_lt b hj) (Int.ofNat_inj.mp h3)
    unfold edgeLt gEdge at hab
    rw [decide_eq_true_eq] at hab
    simp only at hab
    omega
end
theorem edges_autoOk {L S st : Int} {s : List TEdge} (hL : 1 ≤ L ∧ L ≤ 8) (hS : 0 ≤ S ∧ S ≤ 31) (hst : 0 ≤ st ∧ st < ((2 ^ S.toNat : Nat) : Int)) (hl : s.length ≤ 2000) (he : ∀ e ∈ s, (0 ≤ e.from_ ∧ e.from_ < S) ∧ (0 ≤ e.to_ ∧ e.to_ < S) ∧ (0 ≤ e.letter ∧ e.letter < L)) (hs : s.Pairwise fun a b => edgeLt a b = true) : autoOk ⟨L, S, st, s⟩ = true := by
  unfold autoOk
  rw [Bool.and_eq_true]
  refine ⟨?_, List.all_eq_true.mpr fun k hk => ?_⟩
  · unfold headOk
    simp only [Bool.and_eq_true, decide_eq_true_eq]
    exact ⟨⟨⟨hL, hS⟩, hst⟩, hl⟩
  · rw [List.mem_range] at hk
    simp only at hk
    have e1 : s.getD k default = s[k] := by simp [List.getD_eq_getElem?_getD, hk]
    have := he _ (List.getElem_mem hk)
    unfold edgeOk
    simp only [Bool.and_eq_true, Bool.or_eq_true, decide_eq_true_eq]
    rw [e1]
    refine ⟨⟨⟨by omega, by omega⟩, by omega⟩, ?_⟩
    by_cases c : k = 0
    · exact .inl c
    · right
      have e2 : s.getD (k - 1) default = s[k - 1] := by rw [List.getD_eq_getElem?_getD, List.getElem?_eq_getElem (by omega)]; rfl
      rw [e2]
      exact (List.pairwise_iff_getElem.mp hs) (k - 1) k (by omega) hk (by omega)
theorem genDG {g : TGen} (h : genOk g = true) (hs : 1 ≤ g.states) : DG g g.states.toNat g.letters.toNat g.sets.toNat (max g.sets.toNat 1) := by
  have hw := genOk_W h (by omega)
  have h1 := hw.sts; have h2 := hw.lets; have h3 := hw.sets; have h4 := hw.start
  refine ⟨by omega, by omega, by omega, rfl, by omega, by omega, by omega, h4, hw.num, fun e he => ?_, genOk_sorted h⟩
  have := hw.edge e he
  refine ⟨by omega, by omega, by omega, this.2.2.2⟩
theorem genDegen_eq (g : TGen) (hs : 1 ≤ g.states) : ∃ r : TAuto × Bool, spec_GenDegen g = some r ∧ impl_GenDegen g = some r ∧ (r.2 = true → autoOk r.1 = true) := by
  by_cases ok : genOk g = true
  · have D := genDG ok hs
    have hn := D.nle
    generalize g.states.toNat = S at *
    generalize g.letters.toNat = L at *
    generalize g.sets.toNat = T at *
    generalize max T 1 = n at *
    have hnn := D.n_
    have hS := D.S_; have hL := D.L_; have hT := D.T_
    have bS := D.bS; have bL := D.bL; have hnum := D.num; have bT := D.bT; have hst := D.start
    have hmx : mx g.sets 1 = (n : Int) := by rw [mx_max, hT]; omega
    have hmx2 : spec_l1Max g.sets 1 = (n : Int) := by unfold spec_l1Max; rw [hT]; split <;> omega
    have b1 : S * n ≤ 31 * 4 := Nat.mul_le_mul bS.2 hn.2.1
    have b2 : g.edges.length * n ≤ 2000 * 4 := Nat.mul_le_mul hnum hn.2.1
    have w1 : W (g.states * (n : Int)) = ((S * n : Nat) : Int) := by
      rw [hS, show (S : Int) * (n : Int) = ((S * n : Nat) : Int) by push_cast; rfl, W, W_eq (by omega) (by omega)]
    have w2 : W (((g.edges.length : Nat) : Int) * (n : Int)) = ((g.edges.length * n : Nat) : Int) := by
      rw [show ((g.edges.length : Nat) : Int) * (n : Int) = ((g.edges.length * n : Nat) : Int) by push_cast; rfl, W, W_eq (by omega) (by omega)]
    by_cases fit : S * n ≤ 31 ∧ g.edges.length * n ≤ 2000
    · have hSn : 1 ≤ S * n := Nat.mul_pos (by omega) (by omega)
      have hlt := startN_lt (n := n) (S := S) (st := g.start.toNat) hn.1
      have hE := D.edges_ok
      have hK := D.edges_key
      have hlE : (degL T n g.edges).length = g.edges.length * n := degL_len T n g.edges
      have hok0 : autoOk ⟨(L : Int), ((S * n : Nat) : Int), ((startN n S g.start.toNat : Nat) : Int), []⟩ = true :=
        edges_autoOk (by omega) (by omega) (by rw [Int.toNat_natCast]; omega) (by simp) (fun e he => by cases he) List.Pairwise.nil
      obtain ⟨s, s1, s2, s3⟩ := autoMake_eq (S := S * n) (L := L) ⟨hSn, fit.1⟩ bL (st := ((startN n S g.start.toNat : Nat) : Int)) (by rw [specAutoOk_eq, hok0]) (E := degL T n g.edges) (by omega) hE
        (hK.imp_of_mem fun {a b} ha hb h => keyE_ne (hE a ha) (hE b hb) h)
      have hok : autoOk ⟨(L : Int), ((S * n : Nat) : Int), ((startN n S g.start.toNat : Nat) : Int), s⟩ = true :=
        edges_autoOk (by omega) (by omega) (by rw [Int.toNat_natCast]; omega) (by rw [s2.length_eq]; omega) (fun e he => by
          have := hE e (s2.mem_iff.mp he)
          exact ⟨this.f, this.t, this.l⟩) s3
      have hord := ordered_eq s3 s2 (by omega)
      refine ⟨(⟨(L : Int), ((S * n : Nat) : Int), ((startN n S g.start.toNat : Nat) : Int), s⟩, true), ?_, ?_, fun _ => hok⟩
      · unfold spec_GenDegen
        rw [specGenOk_eq, ok, Option.bind_some, bnd_eq, bnd_eq, hmx2, w1, w2, decide_eq_false (by omega), decide_eq_false (by omega), if_neg (by simp), D.spec_start fit.1, Option.bind_some]
        unfold spec_GenDegen.k0
        rw [D.spec_all fit.2, Option.bind_some]
        unfold spec_GenDegen.k1
        rw [hmx2, w1, hL, s1, Option.bind_some]
      · have tail : ∀ x : Int, x = ((startN n S g.start.toNat : Nat) : Int) → ∀ a b c d, impl_GenDegen.k0 g a b c d (L : Int) ((S * n : Nat) : Int) x [] = some (⟨(L : Int), ((S * n : Nat) : Int), ((startN n S g.start.toNat : Nat) : Int), s⟩, true) := fun x hx a b c d => by
          subst hx
          unfold impl_GenDegen.k0
          rw [D.impl_all fit.2, Option.bind_some]
          unfold impl_GenDegen.k1
          rw [hord, Option.bind_some]
          unfold impl_rightAuto
          rw [implAutoOk_eq, hok]; rfl
        unfold impl_GenDegen
        rw [implGenOk_eq, ok, Option.bind_some, if_neg (by simp)]
        by_cases c : T = 0
        · have hn1 : n = 1 := by omega
          rw [if_neg (by omega)]
          subst hn1
          have h1 := tail g.start (by rw [startN_one (by omega)]; omega) 0 0 0 []
          rw [Nat.mul_one] at h1
          rw [hL, hS]
          simpa using h1
        · rw [if_pos (by omega), hmx, w1, w2, bnd_eq, decide_eq_false (by omega), decide_eq_false (by omega), if_neg (by simp)]
          have hsl := setList_eq (S := g.start.toNat) (n := S) bS.2 (by omega)
          rw [show ((g.start.toNat : Nat) : Int) = g.start by omega] at hsl
          rw [hsl, Option.bind_some, D.impl_start fit.1, Option.bind_some, hL]
          exact tail _ rfl 0 0 0 []
    · refine ⟨(⟨0, 0, 0, []⟩, false), ?_, ?_, fun h => by cases h⟩
      · unfold spec_GenDegen
        rw [specGenOk_eq, ok, Option.bind_some, bnd_eq, bnd_eq, hmx2, w1, w2, if_pos]
        by_cases c : S * n ≤ 31
        · rw [decide_eq_true (by omega : ((g.edges.length * n : Nat) : Int) > 2000), Bool.or_true]
        · rw [decide_eq_true (by omega : ((S * n : Nat) : Int) > 31)]; simp
      · unfold impl_GenDegen
        have hT0 : T ≠ 0 := by
          intro h0
          have : n = 1 := by omega
          subst this
          omega
        rw [implGenOk_eq, ok, Option.bind_some, if_neg (by simp), if_pos (by omega), hmx, w1, w2, bnd_eq, if_pos]
        by_cases c : S * n ≤ 31
        · rw [decide_eq_true (by omega : ((g.edges.length * n : Nat) : Int) > 2000), Bool.or_true]
        · rw [decide_eq_true (by omega : ((S * n : Nat) : Int) > 31)]; simp
  · rw [Bool.not_eq_true] at ok
    refine ⟨(⟨0, 0, 0, []⟩, false), ?_, ?_, fun h => by cases h⟩
    · unfold spec_GenDegen
      rw [specGenOk_eq, ok, Option.bind_some, bnd_eq, bnd_eq, if_pos (by simp)]
    · unfold impl_GenDegen
      rw [implGenOk_eq, ok, Option.bind_some, if_pos (by simp)]
end Go.Proofs.YthdoebgikbfndaaGreat
end

/- Automata compared, marked, found marked. -/
section
namespace Go.Proofs.YthdoebgikbfndaaGreat
open Go Go.RowKit E
set_option linter.unusedVariables false

theorem eqEdge_eq (a b : TEdge) : laws_eqEdge a b = decide (a = b) := by
  unfold laws_eqEdge
  cases a; cases b
  simp only [TEdge.mk.injEq]
  repeat' split
  all_goals simp_all
theorem eqEdgeS_eq (xs ys : List TEdge) (h : xs.length ≤ 1048576) : laws_eqEdgeS xs ys = some (decide (xs = ys)) := by
  unfold laws_eqEdgeS
  split
  · rename_i k; rw [decide_eq_false]; intro e; subst e; exact k rfl
  · rename_i k
    have h1 := eq_loop (fun a b => some (laws_eqEdge a b)) (fun a b => by rw [eqEdge_eq]) xs ys (by omega) (by omega)
    have h2 : loop (fun s : Int => laws_eqEdgeS.b0 xs ys s) 0 = some (if xs = ys then (.inl () : Unit ⊕ Bool) else .inr false) := h1
    rw [h2, Option.bind_some]
    by_cases e : xs = ys
    · rw [if_pos e]; simp [e, laws_eqEdgeS.k0]
    · rw [if_neg e]; simp [e]
theorem eqAuto_eq (a : TAuto) (h : a.edges.length ≤ 1048576) : laws_eqAuto a a = some true := by
  unfold laws_eqAuto
  rw [if_neg (by simp), if_neg (by simp), if_neg (by simp), eqEdgeS_eq _ _ h, Option.bind_some]
  simp
def markEL (c : Nat) : List TEdge → List TEdge
  | [] => []
  | _ :: r => TEdge.mk (c : Int) ((c : Int) + 1) ((c : Int) + 2) (decide (Int.tmod ((c : Int) + 3) 3 = 0)) :: markEL (c + 4) r
theorem markE_loop : ∀ (r pre : List TEdge) (c : Nat), c + 4 * r.length ≤ 1000000000 → pre.length + r.length ≤ 1000000000 → loop (fun s : List TEdge × Int × Int => laws_markEdgeS.b0 s.1 s.2.1 s.2.2) (pre ++ r, (c : Int), (pre.length : Int)) = some (((c + 4 * r.length : Nat) : Int), pre ++ markEL c r)
  | [], pre, c, _, _ => loop_end (by dsimp only; unfold laws_markEdgeS.b0; rw [if_neg (by simp)]; simp [markEL])
  | x :: r, pre, c, h1, h2 => by
    simp only [List.length_cons] at h1 h2
    have w1 : W ((c : Int) + 1) = (c : Int) + 1 := W_eq (by omega) (by omega)
    have w2 : W ((c : Int) + 1 + 1) = (c : Int) + 2 := by rw [W, W_eq (by omega) (by omega)]; omega
    have w3 : W ((c : Int) + 2 + 1) = (c : Int) + 3 := by rw [W, W_eq (by omega) (by omega)]; omega
    have w5 : W ((c : Int) + 3 + 1) = ((c + 4 : Nat) : Int) := by rw [W, W_eq (by omega) (by omega)]; omega
    have w4 : W ((pre.length : Int) + 1) = (((pre ++ [TEdge.mk (c : Int) ((c : Int) + 1) ((c : Int) + 2) (decide (Int.tmod ((c : Int) + 3) 3 = 0))]).length : Nat) : Int) := by rw [W, W_eq (by omega) (by omega)]; simp
    have ih := markE_loop r (pre ++ [TEdge.mk (c : Int) ((c : Int) + 1) ((c : Int) + 2) (decide (Int.tmod ((c : Int) + 3) 3 = 0))]) (c + 4) (by omega) (by simp; omega)
    rw [loop_go (s' := (pre ++ TEdge.mk (c : Int) ((c : Int) + 1) ((c : Int) + 2) (decide (Int.tmod ((c : Int) + 3) 3 = 0)) :: r, ((c + 4 : Nat) : Int), (((pre ++ [TEdge.mk (c : Int) ((c : Int) + 1) ((c : Int) + 2) (decide (Int.tmod ((c : Int) + 3) 3 = 0))]).length : Nat) : Int)))]
    · rw [List.append_assoc, List.singleton_append] at ih
      rw [ih]
      simp only [List.length_cons, markEL, List.append_assoc, List.singleton_append]
      rw [show c + 4 + 4 * r.length = c + 4 * (r.length + 1) by omega]
    · dsimp only; unfold laws_markEdgeS.b0
      rw [if_pos (by simp; omega)]
      simp only [ck_mid, Option.bind_some, set_mid, w1, w2, w3, w4, w5]
      simp
theorem markE_from (xs : List TEdge) (c : Nat) (h : xs.length ≤ 2000000) (hc : c ≤ 20000000) : laws_markEdgeS xs (c : Int) = some (((c + 4 * xs.length : Nat) : Int), markEL c xs) := by
  unfold laws_markEdgeS
  have := markE_loop xs [] c (by omega) (by simp; omega)
  simp only [List.nil_append] at this
  have e : loop (fun s : List TEdge × Int × Int => laws_markEdgeS.b0 s.1 s.2.1 s.2.2) (xs, (c : Int), 0) = _ := this
  rw [e]; rfl
theorem markAuto_eq (a : TAuto) (h : a.edges.length ≤ 2000000) : laws_markAuto a 1 = some (((1 + 4 * a.edges.length : Nat) : Int), { a with edges := markEL 1 a.edges }) := by
  unfold laws_markAuto
  have := markE_from a.edges 1 h (by omega)
  rw [show ((1 : Nat) : Int) = 1 from rfl] at this
  rw [this, Option.bind_some]
theorem heldE_loop : ∀ (r pre : List TEdge) (c : Nat), c + 4 * r.length ≤ 1000000000 → pre.length + r.length ≤ 1000000000 → loop (fun s : Int × Int => laws_heldEdgeS.b0 (pre ++ markEL c r) s.1 s.2) ((c : Int), (pre.length : Int)) = some (.inl ((c + 4 * r.length : Nat) : Int))
  | [], pre, c, _, _ => loop_end (by dsimp only; unfold laws_heldEdgeS.b0; rw [if_neg (by simp [markEL])]; simp)
  | x :: r, pre, c, h1, h2 => by
    simp only [List.length_cons] at h1 h2
    have w1 : W ((c : Int) + 1) = (c : Int) + 1 := W_eq (by omega) (by omega)
    have w2 : W ((c : Int) + 1 + 1) = (c : Int) + 2 := by rw [W, W_eq (by omega) (by omega)]; omega
    have w3 : W ((c : Int) + 2 + 1) = (c : Int) + 3 := by rw [W, W_eq (by omega) (by omega)]; omega
    have w5 : W ((c : Int) + 3 + 1) = ((c + 4 : Nat) : Int) := by rw [W, W_eq (by omega) (by omega)]; omega
    have w4 : W ((pre.length : Int) + 1) = (((pre ++ [TEdge.mk (c : Int) ((c : Int) + 1) ((c : Int) + 2) (decide (Int.tmod ((c : Int) + 3) 3 = 0))]).length : Nat) : Int) := by rw [W, W_eq (by omega) (by omega)]; simp
    have ih := heldE_loop r (pre ++ [TEdge.mk (c : Int) ((c : Int) + 1) ((c : Int) + 2) (decide (Int.tmod ((c : Int) + 3) 3 = 0))]) (c + 4) (by omega) (by simp; omega)
    rw [List.append_assoc, List.singleton_append] at ih
    unfold markEL
    rw [loop_go (s' := (((c + 4 : Nat) : Int), (((pre ++ [TEdge.mk (c : Int) ((c : Int) + 1) ((c : Int) + 2) (decide (Int.tmod ((c : Int) + 3) 3 = 0))]).length : Nat) : Int)))]
    · rw [ih, List.length_cons, show c + 4 + 4 * r.length = c + 4 * (r.length + 1) by omega]
    · dsimp only; unfold laws_heldEdgeS.b0
      rw [if_pos (by simp; omega)]
      simp only [ix_mid, Option.bind_some, w1, w2, w3, w4, w5]
      simp
theorem heldE_eq (xs : List TEdge) (h : xs.length ≤ 2000000) : laws_heldEdgeS (markEL 1 xs) 1 = some ((1 + 4 * xs.length : Nat) : Int) := by
  unfold laws_heldEdgeS
  have := heldE_loop xs [] 1 (by omega) (by simp; omega)
  simp only [List.nil_append] at this
  have e : loop (fun s : Int × Int => laws_heldEdgeS.b0 (markEL 1 xs) s.1 s.2) (1, 0) = _ := this
  rw [e]; rfl
theorem heldAuto_eq (a : TAuto) (h : a.edges.length ≤ 2000000) : laws_heldAuto { a with edges := markEL 1 a.edges } 1 = some ((1 + 4 * a.edges.length : Nat) : Int) := by
  unfold laws_heldAuto
  dsimp only
  rw [heldE_eq _ h, Option.bind_some, if_neg (by omega)]
end Go.Proofs.YthdoebgikbfndaaGreat
end

/- Lists of nodes: copied as they are, held against each other. -/
section
namespace Go.Proofs.YthdoebgikbfndaaGreat
open Go Go.RowKit E
set_option linter.unusedVariables false

theorem toNodeS_eq (xs : List TNode) (h : xs.length ≤ 1048576) : laws_toNodeS xs = some xs := by
  unfold laws_toNodeS
  rw [mk_ok (by omega) (by omega), Option.bind_some, Int.toNat_natCast]
  have h1 := copy_loop (fun a => some (laws_toNode a)) laws_toNode (fun _ => rfl) (TNode.mk 0 0 0) xs (by omega)
  have h2 : loop (fun s : List TNode × Int => laws_toNodeS.b0 xs s.1 s.2) (List.replicate xs.length (TNode.mk 0 0 0), 0) = some (xs.map laws_toNode) := h1
  rw [h2, Option.bind_some]
  have : xs.map laws_toNode = xs := by
    have : laws_toNode = id := rfl
    rw [this]; simp
  rw [this]; rfl
theorem eqNode_eq (a b : TNode) : laws_eqNode a b = decide (a = b) := by
  unfold laws_eqNode
  cases a; cases b
  simp only [TNode.mk.injEq]
  split
  · simp_all
  · split
    · simp_all
    · split <;> simp_all
theorem eqNodeS_eq (xs ys : List TNode) (h : xs.length ≤ 1048576) : laws_eqNodeS xs ys = some (decide (xs = ys)) := by
  unfold laws_eqNodeS
  split
  · rename_i k; rw [decide_eq_false]; intro e; subst e; exact k rfl
  · rename_i k
    have h1 := eq_loop (fun a b => some (laws_eqNode a b)) (fun a b => by rw [eqNode_eq]) xs ys (by omega) (by omega)
    have h2 : loop (fun s : Int => laws_eqNodeS.b0 xs ys s) 0 = some (if xs = ys then (.inl () : Unit ⊕ Bool) else .inr false) := h1
    rw [h2, Option.bind_some]
    by_cases e : xs = ys
    · rw [if_pos e]; simp [e, laws_eqNodeS.k0]
    · rw [if_neg e]; simp [e]
end Go.Proofs.YthdoebgikbfndaaGreat
end

/- Nodes marked. -/
section
namespace Go.Proofs.YthdoebgikbfndaaGreat
open Go Go.RowKit E
set_option linter.unusedVariables false

def markL (c : Nat) : List TNode → List TNode
  | [] => []
  | _ :: r => TNode.mk (c : Int) ((c : Int) + 1) ((c : Int) + 2) :: markL (c + 3) r
theorem mark_loop : ∀ (r pre : List TNode) (c : Nat), c + 3 * r.length ≤ 1000000000 → pre.length + r.length ≤ 1000000000 → loop (fun s : List TNode × Int × Int => laws_markNodeS.b0 s.1 s.2.1 s.2.2) (pre ++ r, (c : Int), (pre.length : Int)) = some (((c + 3 * r.length : Nat) : Int), pre ++ markL c r)
  | [], pre, c, _, _ => loop_end (by dsimp only; unfold laws_markNodeS.b0; rw [if_neg (by simp)]; simp [markL])
  | x :: r, pre, c, h1, h2 => by
    simp only [List.length_cons] at h1 h2
    have w1 : W ((c : Int) + 1) = (c : Int) + 1 := W_eq (by omega) (by omega)
    have w2 : W ((c : Int) + 1 + 1) = (c : Int) + 2 := by rw [W, W_eq (by omega) (by omega)]; omega
    have w3 : W ((c : Int) + 2 + 1) = ((c + 3 : Nat) : Int) := by rw [W, W_eq (by omega) (by omega)]; omega
    have w4 : W ((pre.length : Int) + 1) = (((pre ++ [TNode.mk (c : Int) ((c : Int) + 1) ((c : Int) + 2)]).length : Nat) : Int) := by rw [W, W_eq (by omega) (by omega)]; simp
    have ih := mark_loop r (pre ++ [TNode.mk (c : Int) ((c : Int) + 1) ((c : Int) + 2)]) (c + 3) (by omega) (by simp; omega)
    rw [loop_go (s' := (pre ++ TNode.mk (c : Int) ((c : Int) + 1) ((c : Int) + 2) :: r, ((c + 3 : Nat) : Int), (((pre ++ [TNode.mk (c : Int) ((c : Int) + 1) ((c : Int) + 2)]).length : Nat) : Int)))]
    · rw [List.append_assoc, List.singleton_append] at ih
      rw [ih]
      simp only [List.length_cons, markL, List.append_assoc, List.singleton_append]
      rw [show c + 3 + 3 * r.length = c + 3 * (r.length + 1) by omega]
    · dsimp only; unfold laws_markNodeS.b0
      rw [if_pos (by simp; omega)]
      simp only [ck_mid, Option.bind_some, set_mid, w1, w2, w3, w4]
      simp
theorem mark_from (xs : List TNode) (c : Nat) (h : xs.length ≤ 2000000) (hc : c ≤ 20000000) : laws_markNodeS xs (c : Int) = some (((c + 3 * xs.length : Nat) : Int), markL c xs) := by
  unfold laws_markNodeS
  have := mark_loop xs [] c (by omega) (by simp; omega)
  simp only [List.nil_append] at this
  have e : loop (fun s : List TNode × Int × Int => laws_markNodeS.b0 s.1 s.2.1 s.2.2) (xs, (c : Int), 0) = _ := this
  rw [e]; rfl
theorem mark_eq (xs : List TNode) (h : xs.length ≤ 2000000) : laws_markNodeS xs 1 = some (((1 + 3 * xs.length : Nat) : Int), markL 1 xs) := mark_from xs 1 h (by omega)
end Go.Proofs.YthdoebgikbfndaaGreat
end

/- Places of the nodes of time; nodes that are too many. -/
section
namespace Go.Proofs.YthdoebgikbfndaaGreat
open Go Go.RowKit E
set_option linter.unusedVariables false

theorem szNodeS_eq (xs : List TNode) (k : Int) (h : xs.length ≤ 9223372036854775807) (hk : 0 ≤ k ∧ k ≤ 1048576) : laws_szNodeS xs k = if (xs.length : Int) ≤ k then k - xs.length else -1 := by
  unfold laws_szNodeS
  rw [W, W_eq (by omega) (by omega)]
  split <;> split <;> omega
end Go.Proofs.YthdoebgikbfndaaGreat
end

/- The automaton of one mark of a formula: the law. -/
section
namespace Go.Proofs.YthdoebgikbfndaaGreat
open Go Go.RowKit E
set_option linter.unusedVariables false

/-- Both sides come to the same. -/
theorem ltlAuto_eq (e : List TNode) (p : Int) : ∃ r : TAuto × Bool, spec_LtlAuto e p = some r ∧ impl_LtlAuto e p = some r ∧ r.1.edges.length ≤ 2000 := by
  obtain ⟨⟨g, b⟩, g1, g2, _, g4⟩ := ltlGen_eq e p
  simp only at g4
  cases b with
  | false =>
    refine ⟨(⟨0, 0, 0, []⟩, false), ?_, ?_, by simp⟩
    · unfold spec_LtlAuto; rw [g1]; rfl
    · unfold impl_LtlAuto; rw [g2]; rfl
  | true =>
    obtain ⟨⟨a, c⟩, d1, d2, d3⟩ := genDegen_eq g (g4 rfl)
    simp only at d3
    cases c with
    | false =>
      refine ⟨(⟨0, 0, 0, []⟩, false), ?_, ?_, by simp⟩
      · unfold spec_LtlAuto; rw [g1, Option.bind_some, if_neg (by simp), d1]; rfl
      · unfold impl_LtlAuto; rw [g2, Option.bind_some, if_neg (by simp)]
        change ((impl_GenDegen g).bind _) = _
        rw [d2]; rfl
    | true =>
      have ok := d3 rfl
      have h := autoOk_A ok
      have hs := h.start
      have es : a.start = ((a.start.toNat : Nat) : Int) := by omega
      have hl : a.start.toNat < 2 ^ a.states.toNat := by omega
      have hr := reachN_lt h hl
      have k1 := specKeep_eq h hr
      have k2 := implKept_eq h hr
      have r1 := l4Reach_eq h hl
      have r2 := reach_eq h hl
      rw [← es] at r1 r2
      have hlen := keptE_len (reachN a a.start.toNat) a.edges
      have hn := h.num
      refine ⟨(keptA a (reachN a a.start.toNat), true), ?_, ?_, by unfold keptA; simp only; omega⟩
      · unfold spec_LtlAuto
        rw [g1, Option.bind_some, if_neg (by simp), d1, Option.bind_some, if_neg (by simp)]
        unfold spec_AutoTrim
        rw [specAutoOk_eq, ok, Option.bind_some, if_neg (by simp), r1, Option.bind_some, k1]; rfl
      · unfold impl_LtlAuto
        rw [g2, Option.bind_some, if_neg (by simp)]
        change ((impl_GenDegen g).bind _) = _
        rw [d2, Option.bind_some, if_neg (by simp)]
        change ((impl_AutoTrim a).bind _) = _
        unfold impl_AutoTrim
        rw [implAutoOk_eq, ok, Option.bind_some, if_neg (by simp), r2, Option.bind_some, k2]; rfl
theorem pureLtlAuto (e : List TNode) (w : e.length ≤ 9223372036854775807 ∧ ∀ q ∈ e, TNode.wf q) (p : Int) (wp : inI p) : laws_FnExactLtlAuto e p = some true := by
  unfold laws_FnExactLtlAuto
  rw [szNodeS_eq e _ w.1 (by omega)]
  by_cases hl : e.length ≤ 1048576
  · rw [if_neg (by rw [if_pos (by omega)]; omega)]
    obtain ⟨⟨g, b⟩, r1, r2, r3⟩ := ltlAuto_eq e p
    simp only at r3
    have he := eqAuto_eq g (by omega)
    have hm := markAuto_eq g (by omega)
    have hh := heldAuto_eq g (by omega)
    simp only [toNodeS_eq e hl, Option.bind_some, r1, r2, he, eqNodeS_eq e e hl, mark_eq e (by omega : e.length ≤ 2000000), hm, hh]
    simp only [bnd_eq, Bool.not_true, beq_self_eq_true, Bool.or_self, Bool.false_eq_true, if_false, Option.bind_some, decide_true]
    rw [show (decide (((1 + 3 * e.length : Nat) : Int) < 0)) = false by simp; omega, Bool.not_false, whenO_t, Option.bind_some]
    have hz : ¬ ((1 + 4 * g.edges.length : Nat) : Int) < 0 := by omega
    simp only [hz, Bool.not_true, Bool.or_self, Bool.false_eq_true, if_false, Option.bind_some, ne_eq, not_true_eq_false]
  · rw [if_pos (by rw [if_neg (by omega)]; omega)]
end Go.Proofs.YthdoebgikbfndaaGreat
end
