/- Plain texts of FnExactReNfa, put together. -/
import Derived.Test.YthdoebgikbfndaaDReNfa
import Derived.Test.YthdoebgikbfndaaWf
import Derived.Test.YthdoebgikbfndaaQ0
import Derived.Test.YthdoebgikbfndaaQ1
import Derived.Test.YthdoebgikbfndaaSO0
import Derived.Test.YthdoebgikbfndaaTy

/- Trees of nodes: what both ways of telling them find. -/
section
namespace Go.Proofs.Ythdoebgikbfndaa
open Go Go.RowKit E
set_option linter.unusedVariables false

/-- The sizes of the trees of all nodes, one node more. -/
def sizeStep (p : TNode → Int) (ss : List Int) (n : TNode) : Option (List Int) :=
  if p n = 0 then some (ss ++ [1])
  else if p n = 1 then (if 1 ≤ ss.length ∧ n.a = (ss.length : Int) - 1 ∧ n.b = 0 then some (ss ++ [1 + ss.getD (ss.length - 1) 0]) else none)
  else if p n = 2 then (if 1 ≤ ss.length ∧ n.b = (ss.length : Int) - 1 ∧ 0 ≤ (ss.length : Int) - 1 - ss.getD (ss.length - 1) 0 ∧ n.a = (ss.length : Int) - 1 - ss.getD (ss.length - 1) 0 then some (ss ++ [1 + ss.getD (ss.length - 1) 0 + ss.getD n.a.toNat 0]) else none)
  else none
def sizesFrom (p : TNode → Int) : List Int → List TNode → Option (List Int)
  | ss, [] => some ss
  | ss, n :: r => match sizeStep p ss n with
    | some ss' => sizesFrom p ss' r
    | none => none
def treeOk (p : TNode → Int) (e : List TNode) : Bool :=
  decide (1 ≤ e.length ∧ e.length ≤ 31) && match sizesFrom p [] e with
    | some ss => decide (ss.getD (e.length - 1) 0 = (e.length : Int))
    | none => false
/-- What sizes are right: none is below one, and none reaches further than to the first node. -/
def Sized (ss : List Int) : Prop := ∀ i, i < ss.length → 1 ≤ ss.getD i 0 ∧ ss.getD i 0 ≤ (i : Int) + 1
theorem Sized.nil : Sized [] := fun i h => by simp at h
theorem getD_app {ss : List Int} {x : Int} {i : Nat} : (ss ++ [x]).getD i 0 = if i < ss.length then ss.getD i 0 else if i = ss.length then x else 0 := by
  by_cases h : i < ss.length
  · rw [if_pos h]; simp [List.getD, List.getElem?_append_left h]
  · rw [if_neg h]
    by_cases k : i = ss.length
    · subst k; simp
    · rw [if_neg k]; simp [List.getD, List.getElem?_eq_none (by simp; omega : (ss ++ [x]).length ≤ i)]
theorem Sized.snoc {ss : List Int} (h : Sized ss) {x : Int} (h1 : 1 ≤ x) (h2 : x ≤ (ss.length : Int) + 1) : Sized (ss ++ [x]) := by
  intro i hi
  rw [getD_app]
  by_cases k : i < ss.length
  · rw [if_pos k]; exact h i k
  · have : i = ss.length := by simp at hi; omega
    rw [if_neg k, if_pos this]; omega
theorem sizeStep_sized {p : TNode → Int} {ss ss' : List Int} {n : TNode} (h : Sized ss) (hs : sizeStep p ss n = some ss') : Sized ss' ∧ ss'.length = ss.length + 1 := by
  unfold sizeStep at hs
  split at hs
  · cases hs; exact ⟨h.snoc (by omega) (by omega), by simp⟩
  · split at hs
    · split at hs
      · rename_i k; cases hs
        have := h (ss.length - 1) (by omega)
        exact ⟨h.snoc (by omega) (by omega), by simp⟩
      · cases hs
    · split at hs
      · split at hs
        · rename_i k; cases hs
          have h1 := h (ss.length - 1) (by omega)
          have h2 := h n.a.toNat (by omega)
          exact ⟨h.snoc (by omega) (by omega), by simp⟩
        · cases hs
      · cases hs

theorem getL {ss : List Int} {i : Int} (h : 0 ≤ i) (k : i < ss.length) : ix ss i = some (ss.getD i.toNat 0) := ix_ok h k

/-- The reference's sizes. -/
theorem l2Sizes_from (p : TNode → Int) (e : List TNode) (ps : List Int) (hps : ps.length = e.length) (he : e.length ≤ 31) (hp : ∀ i, i < e.length → ps.getD i 0 = p (e.getD i default) ∨ (ps.getD i 0 = 0 ∧ p (e.getD i default) ≠ 0 ∧ p (e.getD i default) ≠ 1 ∧ p (e.getD i default) ≠ 2 ∧ (e.getD i default).b ≠ 0))
    (hq : ∀ i, i < e.length → ps.getD i 0 = 0 ∨ ps.getD i 0 = 1 ∨ ps.getD i 0 = 2) (hb : ∀ n, p n = 0 → n.b = 0) :
    ∀ (r pre : List TNode) (ss : List Int), e = pre ++ r → ss.length = pre.length → Sized ss →
      loop (fun s : List Int × Int => spec_l2Sizes.b0 e ps s.1 s.2) (ss, (pre.length : Int)) = some (match sizesFrom p ss r with | some s => .inl s | none => .inr []) := by
  intro r
  induction r with
  | nil =>
    intro pre ss h hl hS
    refine loop_end ?_
    unfold spec_l2Sizes.b0
    rw [if_neg (by rw [h]; simp)]; rfl
  | cons n r ih =>
    intro pre ss h hl hS
    have hk : pre.length < e.length := by rw [h]; simp
    have hn : e.getD pre.length default = n := by rw [h]; simp
    have hix : ix e (pre.length : Int) = some n := by rw [ix_nat hk, hn]
    have hp0 := hp _ hk
    have hq0 := hq _ hk
    have hixp : ix ps (pre.length : Int) = some (ps.getD pre.length 0) := ix_nat (by omega)
    rw [hn] at hp0
    have go : ∀ x, sizeStep p ss n = some (ss ++ [x]) → spec_l2Sizes.b0 e ps ss (pre.length : Int) = some (.inl (ss ++ [x], ((pre.length + 1 : Nat) : Int))) →
        loop (fun s : List Int × Int => spec_l2Sizes.b0 e ps s.1 s.2) (ss, (pre.length : Int)) = some (match sizesFrom p ss (n :: r) with | some s => .inl s | none => .inr []) := by
      intro x h1 h2
      rw [loop_go h2]
      have := ih (pre ++ [n]) (ss ++ [x]) (by rw [h]; simp) (by simp [hl]) (sizeStep_sized hS h1).1
      simp only [List.length_append, List.length_singleton] at this
      rw [this]
      simp only [sizesFrom, h1]
    have stop : sizeStep p ss n = none → spec_l2Sizes.b0 e ps ss (pre.length : Int) = some (.inr (.inr [])) →
        loop (fun s : List Int × Int => spec_l2Sizes.b0 e ps s.1 s.2) (ss, (pre.length : Int)) = some (match sizesFrom p ss (n :: r) with | some s => .inl s | none => .inr []) := by
      intro h1 h2
      rw [loop_end h2]; simp only [sizesFrom, h1]
    have happ : ∀ x, app 8 ss [x] = some (ss ++ [x]) := fun x => app_small (by simp; omega) (by omega)
    have hw : IntKind.i64.wrap ((pre.length : Int) + 1) = ((pre.length + 1 : Nat) : Int) := W_nat (by omega)
    have hw1 : IntKind.i64.wrap ((pre.length : Int) - 1) = (pre.length : Int) - 1 := W_eq (by omega) (by omega)
    have unf : spec_l2Sizes.b0 e ps ss (pre.length : Int) = spec_l2Sizes.b0 e ps ss (pre.length : Int) := rfl
    unfold spec_l2Sizes.b0 at go stop
    simp only [if_pos (show (pre.length : Int) < (e.length : Int) by omega), hix, hixp, Option.bind_some, bnd, W, hw, hw1] at go stop
    have hlast : 1 ≤ pre.length → 1 ≤ ss.getD (pre.length - 1) 0 ∧ ss.getD (pre.length - 1) 0 ≤ (pre.length : Int) := fun g => by
      have := hS (pre.length - 1) (by omega); omega
    have hlx : 1 ≤ pre.length → ix ss ((pre.length : Int) - 1) = some (ss.getD (pre.length - 1) 0) := fun g => by
      rw [getL (by omega) (by omega), show ((pre.length : Int) - 1).toNat = pre.length - 1 by omega]
    generalize hz : ss.getD (pre.length - 1) 0 = z at *
    have hz' : ss.getD (ss.length - 1) 0 = z := by rw [hl]; exact hz
    rcases hq0 with q0 | q0 | q0
    · rw [q0] at go stop hp0
      by_cases hb0 : n.b = 0
      · have hp1 : p n = 0 := by
          rcases hp0 with g | g
          · exact g.symm
          · exact absurd hb0 g.2.2.2.2
        exact go 1 (by simp [sizeStep, hp1]) (by simp [hb0, happ])
      · have hp1 : p n ≠ 0 ∧ p n ≠ 1 ∧ p n ≠ 2 := by
          rcases hp0 with g | g
          · exact absurd (hb n g.symm) hb0
          · exact ⟨g.2.1, g.2.2.1, g.2.2.2.1⟩
        exact stop (by simp [sizeStep, hp1]) (by simp [hb0])
    · rw [q0] at go stop hp0
      have hp1 : p n = 1 := by
        rcases hp0 with g | g
        · exact g.symm
        · exact absurd g.1 (by omega)
      by_cases hc : 1 ≤ pre.length ∧ n.a = (pre.length : Int) - 1 ∧ n.b = 0
      · obtain ⟨c1, c2, c3⟩ := hc
        have hl1 := hlast c1
        have hw2 : IntKind.i64.wrap (1 + z) = 1 + z := W_eq (by omega) (by omega)
        refine go (1 + z) (by unfold sizeStep; rw [if_neg (by omega), if_pos hp1, hz', if_pos (by rw [hl]; omega)]) ?_
        rw [if_pos rfl, if_neg (by simp; omega), hlx c1]
        simp only [Option.bind_some, hw2, happ]
      · refine stop (by unfold sizeStep; rw [if_neg (by omega), if_pos hp1, if_neg (by rw [hl]; omega)]) ?_
        rw [if_pos rfl, if_pos (by simp; omega)]
    · rw [q0] at go stop hp0
      have hp1 : p n = 2 := by
        rcases hp0 with g | g
        · exact g.symm
        · exact absurd g.1 (by omega)
      rw [if_neg (by omega), if_pos rfl] at stop
      simp only [if_neg (show ¬ (2 : Int) = 1 by omega), if_pos] at go
      by_cases c1 : 2 ≤ pre.length ∧ n.b = (pre.length : Int) - 1
      · have hl1 := hlast (by omega)
        have hw2 : IntKind.i64.wrap ((pre.length : Int) - 1 - z) = (pre.length : Int) - 1 - z := W_eq (by omega) (by omega)
        rw [if_neg (by simp; omega), hlx (by omega), Option.bind_some, hw2] at stop
        simp only [hlx (show 1 ≤ pre.length by omega), Option.bind_some, hw2] at go
        by_cases c2 : 0 ≤ (pre.length : Int) - 1 - z ∧ n.a = (pre.length : Int) - 1 - z
        · have hx : ix ss ((pre.length : Int) - 1 - z) = some (ss.getD n.a.toNat 0) := by rw [getL (by omega) (by omega), c2.2]
          have h2 := hS n.a.toNat (by omega)
          have hw3 : IntKind.i64.wrap (1 + z) = 1 + z := W_eq (by omega) (by omega)
          have hw4 : IntKind.i64.wrap (1 + z + ss.getD n.a.toNat 0) = 1 + z + ss.getD n.a.toNat 0 := W_eq (by omega) (by omega)
          refine go (1 + z + ss.getD n.a.toNat 0) ?_ ?_
          · unfold sizeStep
            rw [if_neg (by omega), if_neg (by omega), if_pos hp1, hz', if_pos (by rw [hl]; omega)]
          · rw [if_neg (by simp; omega), if_neg (by simp; omega), hx]
            simp only [Option.bind_some, hw3, hw4, happ]
        · refine stop ?_ ?_
          · unfold sizeStep
            rw [if_neg (by omega), if_neg (by omega), if_pos hp1, hz', if_neg (by rw [hl]; omega)]
          · rw [if_pos (by simp; omega)]
      · refine stop ?_ ?_
        · unfold sizeStep
          rw [if_neg (by omega), if_neg (by omega), if_pos hp1, hz', if_neg]
          rw [hl]
          rintro ⟨g1, g2, g3, g4⟩
          have := hlast (by omega)
          exact c1 ⟨by omega, g2⟩
        · rw [if_pos (by simp; omega)]

/-- Where the trees of the first nodes begin; 0 behind them. -/
def begL (ss : List Int) (m : Nat) : List Int := ss.mapIdx (fun j s => (j : Int) + 1 - s) ++ List.replicate (m - ss.length) 0
theorem begL_len (ss : List Int) (m : Nat) (h : ss.length ≤ m) : (begL ss m).length = m := by unfold begL; simp; omega
theorem begL_get {ss : List Int} {m i : Nat} (h : i < ss.length) : (begL ss m).getD i 0 = (i : Int) + 1 - ss.getD i 0 := by
  unfold begL
  rw [List.getD_eq_getElem?_getD, List.getElem?_append_left (by simpa using h)]
  simp [h]
theorem begL_set {ss : List Int} {m : Nat} {x z : Int} (h : ss.length < m) (hx : z = (ss.length : Int) + 1 - x) : (begL ss m).set ss.length z = begL (ss ++ [x]) m := by
  unfold begL
  rw [List.set_append_right _ _ (by simp), List.mapIdx_append, show m - ss.length = (m - (ss.length + 1)) + 1 by omega, List.replicate_succ]
  simp [hx]
theorem begins_from (p : TNode → Int) (e : List TNode) (he : e.length ≤ 31) :
    ∀ (r pre : List TNode) (ss : List Int), e = pre ++ r → ss.length = pre.length → Sized ss →
      loop (fun s : List Int × Int => impl_begins.b0 e (fun n => some (p n)) s.1 s.2) (begL ss e.length, (pre.length : Int)) = some (match sizesFrom p ss r with | some s => .inl (begL s e.length) | none => .inr ([], false)) := by
  intro r
  induction r with
  | nil =>
    intro pre ss h hl hS
    refine loop_end ?_
    unfold impl_begins.b0
    rw [if_neg (by rw [h]; simp)]; rfl
  | cons n r ih =>
    intro pre ss h hl hS
    have hk : pre.length < e.length := by rw [h]; simp
    have hn : e.getD pre.length default = n := by rw [h]; simp
    have hix : ix e (pre.length : Int) = some n := by rw [ix_nat hk, hn]
    have hbl := begL_len ss e.length (by omega)
    have hck : ck (pre.length : Int) (begL ss e.length).length = some pre.length := ck_nat (by omega)
    have go : ∀ x, sizeStep p ss n = some (ss ++ [x]) → impl_begins.b0 e (fun n => some (p n)) (begL ss e.length) (pre.length : Int) = some (.inl (begL (ss ++ [x]) e.length, ((pre.length + 1 : Nat) : Int))) →
        loop (fun s : List Int × Int => impl_begins.b0 e (fun n => some (p n)) s.1 s.2) (begL ss e.length, (pre.length : Int)) = some (match sizesFrom p ss (n :: r) with | some s => .inl (begL s e.length) | none => .inr ([], false)) := by
      intro x h1 h2
      rw [loop_go h2]
      have := ih (pre ++ [n]) (ss ++ [x]) (by rw [h]; simp) (by simp [hl]) (sizeStep_sized hS h1).1
      simp only [List.length_append, List.length_singleton] at this
      rw [this]
      simp only [sizesFrom, h1]
    have stop : sizeStep p ss n = none → impl_begins.b0 e (fun n => some (p n)) (begL ss e.length) (pre.length : Int) = some (.inr (.inr ([], false))) →
        loop (fun s : List Int × Int => impl_begins.b0 e (fun n => some (p n)) s.1 s.2) (begL ss e.length, (pre.length : Int)) = some (match sizesFrom p ss (n :: r) with | some s => .inl (begL s e.length) | none => .inr ([], false)) := by
      intro h1 h2
      rw [loop_end h2]; simp only [sizesFrom, h1]
    have hw : IntKind.i64.wrap ((pre.length : Int) + 1) = ((pre.length + 1 : Nat) : Int) := W_nat (by omega)
    have hw1 : IntKind.i64.wrap ((pre.length : Int) - 1) = (pre.length : Int) - 1 := W_eq (by omega) (by omega)
    unfold impl_begins.b0 at go stop
    simp only [if_pos (show (pre.length : Int) < (e.length : Int) by omega), hix, hck, Option.bind_some, bnd, W, hw, hw1] at go stop
    have hlast : 1 ≤ pre.length → 1 ≤ ss.getD (pre.length - 1) 0 ∧ ss.getD (pre.length - 1) 0 ≤ (pre.length : Int) := fun g => by
      have := hS (pre.length - 1) (by omega); omega
    have hset : ∀ z x : Int, z = (ss.length : Int) + 1 - x → ((begL ss e.length).set pre.length (pre.length : Int)).set pre.length z = begL (ss ++ [x]) e.length := by
      intro z x hz
      rw [List.set_set, ← hl]; exact begL_set (by omega) hz
    have hset1 : (begL ss e.length).set pre.length (pre.length : Int) = begL (ss ++ [1]) e.length := by
      have := begL_set (ss := ss) (m := e.length) (x := 1) (z := (ss.length : Int)) (by omega) (by omega)
      rw [hl] at this; exact this
    have hls : ∀ z : Int, ((begL ss e.length).set pre.length z).length = e.length := fun z => by simp [hbl]
    have hget : ∀ i : Nat, i < pre.length → ix ((begL ss e.length).set pre.length (pre.length : Int)) (i : Int) = some ((i : Int) + 1 - ss.getD i 0) := by
      intro i hi
      rw [ix_nat (by rw [hls]; omega), ← begL_get (m := e.length) (by omega)]
      simp [List.getD, List.getElem?_set_ne (show pre.length ≠ i by omega)]
    have hck2 : ck (pre.length : Int) ((begL ss e.length).set pre.length (pre.length : Int)).length = some pre.length := ck_nat (by rw [hls]; omega)
    generalize hz : ss.getD (pre.length - 1) 0 = z at *
    have hz' : ss.getD (ss.length - 1) 0 = z := by rw [hl]; exact hz
    by_cases q0 : p n = 0
    · exact go 1 (by simp [sizeStep, q0]) (by rw [if_pos q0, hset1])
    rw [if_neg q0] at stop
    simp only [if_neg q0] at go
    by_cases q1 : p n = 1
    · rw [if_pos q1] at stop
      simp only [if_pos q1] at go
      by_cases hc : 1 ≤ pre.length ∧ n.a = (pre.length : Int) - 1 ∧ n.b = 0
      · obtain ⟨c1, c2, c3⟩ := hc
        refine go (1 + z) (by unfold sizeStep; rw [if_neg (by omega), if_pos q1, hz', if_pos (by rw [hl]; omega)]) ?_
        have hg := hget (pre.length - 1) (by omega)
        rw [show ((pre.length - 1 : Nat) : Int) = n.a by omega, hz] at hg
        rw [if_neg (by simp only [Bool.or_eq_true, decide_eq_true_eq]; omega), hg]
        simp only [Option.bind_some, hck2]
        rw [hset _ (1 + z) (by omega)]
      · exact stop (by unfold sizeStep; rw [if_neg (by omega), if_pos q1, if_neg (by rw [hl]; omega)]) (by rw [if_pos (by simp only [Bool.or_eq_true, decide_eq_true_eq]; omega)])
    rw [if_neg q1] at stop
    simp only [if_neg q1] at go
    by_cases q2 : p n = 2
    · rw [if_pos q2] at stop
      simp only [if_pos q2] at go
      by_cases c1 : 1 ≤ pre.length ∧ n.b = (pre.length : Int) - 1
      · have hl1 := hlast (by omega)
        have hg := hget (pre.length - 1) (by omega)
        rw [show ((pre.length - 1 : Nat) : Int) = (pre.length : Int) - 1 by omega, hz] at hg
        have hfalse : (decide ((pre.length : Int) = 0) || decide (n.b ≠ (pre.length : Int) - 1)) = false := by rw [Bool.or_eq_false_iff, decide_eq_false_iff_not, decide_eq_false_iff_not]; omega
        have hw2 : IntKind.i64.wrap ((pre.length : Int) - 1 + 1 - z - 1) = (pre.length : Int) - 1 - z := by rw [W_eq (by omega) (by omega)]; omega
        simp only [hfalse, Bool.not_false, whenO_t, hg, Option.bind_some, hw2, Bool.false_or] at go stop
        by_cases c2 : 0 ≤ (pre.length : Int) - 1 - z ∧ n.a = (pre.length : Int) - 1 - z
        · have h2 := hS n.a.toNat (by omega)
          have hg2 := hget n.a.toNat (by omega)
          rw [show ((n.a.toNat : Nat) : Int) = n.a by omega] at hg2
          refine go (1 + z + ss.getD n.a.toNat 0) (by unfold sizeStep; rw [if_neg (by omega), if_neg (by omega), if_pos q2, hz', if_pos (by rw [hl]; omega)]) ?_
          rw [if_neg (by simp only [Bool.or_eq_true, decide_eq_true_eq]; omega), hg2]
          simp only [Option.bind_some, hck2]
          rw [hset _ (1 + z + ss.getD n.a.toNat 0) (by omega)]
        · exact stop (by unfold sizeStep; rw [if_neg (by omega), if_neg (by omega), if_pos q2, hz', if_neg (by rw [hl]; omega)]) (by rw [if_pos (by simp only [Bool.or_eq_true, decide_eq_true_eq]; omega)])
      · have htrue : (decide ((pre.length : Int) = 0) || decide (n.b ≠ (pre.length : Int) - 1)) = true := by simp only [Bool.or_eq_true, decide_eq_true_eq]; omega
        simp only [htrue, Bool.not_true, whenO_f, Option.bind_some, Bool.true_or, if_true] at stop
        exact stop (by unfold sizeStep; rw [if_neg (by omega), if_neg (by omega), if_pos q2, if_neg (by rw [hl]; omega)]) (by first | trivial | rfl)
    · rw [if_neg q2] at stop
      exact stop (by unfold sizeStep; rw [if_neg q0, if_neg q1, if_neg q2]) rfl

theorem sizesFrom_sized {p : TNode → Int} : ∀ {r : List TNode} {ss s : List Int}, Sized ss → sizesFrom p ss r = some s → Sized s ∧ s.length = ss.length + r.length
  | [], ss, s, h, hs => by cases hs; exact ⟨h, by simp⟩
  | n :: r, ss, s, h, hs => by
    unfold sizesFrom at hs
    split at hs
    · rename_i ss' h1
      obtain ⟨g1, g2⟩ := sizeStep_sized h h1
      obtain ⟨k1, k2⟩ := sizesFrom_sized g1 hs
      exact ⟨k1, by simp; omega⟩
    · cases hs
theorem inRange_eq (x a b : Int) : impl_inRange x a b = decide (a ≤ x ∧ x ≤ b) := inR
theorem l1In_eq (x a b : Int) : spec_l1In x a b = decide (a ≤ x ∧ x ≤ b) := inR
theorem isTree_eq (p : TNode → Int) (e : List TNode) : impl_isTree e (fun n => some (p n)) = some (treeOk p e) := by
  unfold impl_isTree impl_begins treeOk
  rw [inRange_eq]
  by_cases h : 1 ≤ e.length ∧ e.length ≤ 31
  · rw [if_neg (by simp; omega), mk_ok (by omega) (by omega), Option.bind_some, Int.toNat_natCast]
    have h1 := begins_from p e h.2 e [] [] rfl rfl Sized.nil
    have h0 : begL [] e.length = List.replicate e.length 0 := by simp [begL]
    rw [h0] at h1
    simp only [List.length_nil, Int.natCast_zero] at h1
    rw [h1]
    cases hs : sizesFrom p [] e with
    | none => simp
    | some s =>
      obtain ⟨k1, k2⟩ := sizesFrom_sized Sized.nil hs
      simp only [List.length_nil, Nat.zero_add] at k2
      have hbl := begL_len s e.length (by omega)
      simp only [Option.bind_some, Sum.elim_inl, impl_begins.k0, W]
      rw [W_eq (by omega) (by omega), show ((e.length : Int) - 1) = ((e.length - 1 : Nat) : Int) by omega, ix_nat (by omega), Option.bind_some, show (default : Int) = 0 from rfl, begL_get (by omega)]
      simp only [Option.bind_some, h, and_self, decide_true, Bool.true_and, Option.some.injEq]
      rw [decide_eq_decide]; omega
  · rw [if_pos (by simp; omega)]; simp; omega

theorem sizesFrom_bad {p : TNode → Int} : ∀ {r : List TNode} {ss : List Int}, (∃ n ∈ r, p n ≠ 0 ∧ p n ≠ 1 ∧ p n ≠ 2) → sizesFrom p ss r = none
  | [], ss, ⟨n, h, _⟩ => by simp at h
  | m :: r, ss, ⟨n, h, k⟩ => by
    unfold sizesFrom
    rcases List.mem_cons.mp h with rfl | h
    · have : sizeStep p ss n = none := by unfold sizeStep; rw [if_neg k.1, if_neg k.2.1, if_neg k.2.2]
      rw [this]
    · split
      · exact sizesFrom_bad ⟨n, h, k⟩
      · rfl
/-- The numbers of parts, told one by one. -/
theorem parts_loop (bad : TNode → Bool) (q : TNode → Int) (e : List TNode) (hl : e.length ≤ 31) :
    loop (fun s : List Int × Int => if s.2 < (e.length : Int) then (ix e s.2).bind fun n => if bad n = true then some (.inr (.inr false)) else (app 8 s.1 [q n]).bind fun z => some (.inl (z, W (s.2 + 1))) else some (.inr (.inl s.1))) ([], 0)
      = some (if e.any bad = true then (.inr false : List Int ⊕ Bool) else .inl (e.map q)) := by
  have key : ∀ (r pre : List TNode), e = pre ++ r → loop (fun s : List Int × Int => if s.2 < (e.length : Int) then (ix e s.2).bind fun n => if bad n = true then some (.inr (.inr false)) else (app 8 s.1 [q n]).bind fun z => some (.inl (z, W (s.2 + 1))) else some (.inr (.inl s.1))) (pre.map q, (pre.length : Int))
      = some (if r.any bad = true then (.inr false : List Int ⊕ Bool) else .inl (e.map q)) := by
    intro r
    induction r with
    | nil => intro pre h; refine loop_end ?_; dsimp only; rw [if_neg (by rw [h]; simp)]; simp [h]
    | cons n r ih =>
      intro pre h
      have hk : pre.length < e.length := by rw [h]; simp
      have hix : ix e (pre.length : Int) = some n := by rw [ix_nat hk, h]; simp
      by_cases hb : bad n = true
      · rw [loop_end (r := .inr false)]
        · simp [hb]
        · dsimp only; rw [if_pos (by omega), hix, Option.bind_some, if_pos hb]
      · rw [loop_go (s' := ((pre ++ [n]).map q, ((pre ++ [n]).length : Int)))]
        · rw [ih (pre ++ [n]) (by rw [h]; simp)]
          simp [hb]
        · dsimp only
          rw [if_pos (by omega), hix, Option.bind_some, if_neg hb, app_small (by simp; omega) (by omega), Option.bind_some, W, W_nat (by omega)]
          simp
  have := key e [] rfl
  simpa using this
/-- The reference's last part: sizes out of the parts told. -/
theorem sizes_end (p q : TNode → Int) (e : List TNode) (h1 : 1 ≤ e.length) (h2 : e.length ≤ 31) (hp : ∀ n ∈ e, q n = p n ∨ (q n = 0 ∧ p n ≠ 0 ∧ p n ≠ 1 ∧ p n ≠ 2 ∧ n.b ≠ 0)) (hq : ∀ n ∈ e, q n = 0 ∨ q n = 1 ∨ q n = 2) (hb : ∀ n, p n = 0 → n.b = 0) :
    ((spec_l2Sizes e (e.map q)).bind fun a59 => bnd ((decide (((a59.length : Int)) = ((e.length : Int))))) fun c65 => (whenO c65 (ix a59 ((W (((e.length : Int)) - 1))))).bind fun a70 => some ((c65 && (decide (a70 = ((e.length : Int))))))) = some (treeOk p e) := by
  have hd : ∀ i, i < e.length → (e.map q).getD i 0 = q (e.getD i default) ∧ e.getD i default ∈ e := fun i hi => by
    refine ⟨by simp [hi], ?_⟩
    have : e.getD i default = e[i] := by simp [hi]
    rw [this]; exact List.getElem_mem hi
  have h := l2Sizes_from p e (e.map q) (by simp) h2 (fun i hi => by obtain ⟨g1, g2⟩ := hd i hi; rw [g1]; exact hp _ g2) (fun i hi => by obtain ⟨g1, g2⟩ := hd i hi; rw [g1]; exact hq _ g2) hb e [] [] rfl rfl Sized.nil
  simp only [List.length_nil, Int.natCast_zero] at h
  unfold spec_l2Sizes
  rw [h]
  unfold treeOk
  cases hs : sizesFrom p [] e with
  | none =>
    simp only [Option.bind_some, Sum.elim_inr, bnd]
    have : decide ((([] : List Int).length : Int) = (e.length : Int)) = false := by simp; omega
    rw [this]; simp [whenO_f]
  | some s =>
    obtain ⟨k1, k2⟩ := sizesFrom_sized Sized.nil hs
    simp only [List.length_nil, Nat.zero_add] at k2
    simp only [Option.bind_some, Sum.elim_inl, spec_l2Sizes.k0, bnd]
    have : decide ((s.length : Int) = (e.length : Int)) = true := by simp; omega
    rw [this, whenO_t, W, W_eq (by omega) (by omega), show ((e.length : Int) - 1) = ((e.length - 1 : Nat) : Int) by omega, ix_nat (by omega)]
    simp only [Option.bind_some, h1, h2, and_self, decide_true, Bool.true_and]
    rfl
end Go.Proofs.Ythdoebgikbfndaa
end

/- Trees of nodes: where the parts of a node lie; what is told of each node by its parts. -/
section
namespace Go.Proofs.Ythdoebgikbfndaa
open Go Go.RowKit E
set_option linter.unusedVariables false

/-- A node at place i has its parts ahead of it. -/
def NodeAt (p : TNode → Int) (i : Nat) (n : TNode) : Prop :=
  p n = 0 ∨ (p n = 1 ∧ 1 ≤ i ∧ n.a = (i : Int) - 1 ∧ n.b = 0) ∨ (p n = 2 ∧ 1 ≤ i ∧ n.b = (i : Int) - 1 ∧ 0 ≤ n.a ∧ n.a < (i : Int) - 1)
theorem sizeStep_node {p : TNode → Int} {ss ss' : List Int} {n : TNode} (hS : Sized ss) (h : sizeStep p ss n = some ss') : NodeAt p ss.length n := by
  unfold sizeStep at h
  split at h
  · rename_i k; exact .inl k
  · split at h
    · rename_i k
      split at h
      · rename_i g; exact .inr (.inl ⟨k, g.1, g.2.1, g.2.2⟩)
      · cases h
    · split at h
      · rename_i k
        split at h
        · rename_i g
          have := hS (ss.length - 1) (by omega)
          exact .inr (.inr ⟨k, g.1, g.2.1, by omega, by omega⟩)
        · cases h
      · cases h
theorem sizesFrom_nodes {p : TNode → Int} : ∀ {r : List TNode} {ss s : List Int}, Sized ss → sizesFrom p ss r = some s → ∀ i, i < r.length → NodeAt p (ss.length + i) (r.getD i default)
  | [], _, _, _, _, i, hi => by simp at hi
  | n :: r, ss, s, hS, h, i, hi => by
    unfold sizesFrom at h
    split at h
    · rename_i ss' h1
      obtain ⟨g1, g2⟩ := sizeStep_sized hS h1
      cases i with
      | zero => exact sizeStep_node hS h1
      | succ i =>
        have := sizesFrom_nodes g1 h i (by simpa using hi)
        rw [g2] at this
        simpa [Nat.add_assoc, Nat.add_comm 1 i] using this
    · cases h
/-- A right tree: its nodes. -/
def Nodes (p : TNode → Int) (e : List TNode) : Prop := 1 ≤ e.length ∧ e.length ≤ 31 ∧ ∀ i, i < e.length → NodeAt p i (e.getD i default)
theorem treeOk_nodes {p : TNode → Int} {e : List TNode} (h : treeOk p e = true) : Nodes p e := by
  unfold treeOk at h
  rw [Bool.and_eq_true, decide_eq_true_eq] at h
  obtain ⟨h1, h2⟩ := h
  cases hs : sizesFrom p [] e with
  | none => rw [hs] at h2; cases h2
  | some s =>
    refine ⟨h1.1, h1.2, fun i hi => ?_⟩
    have := sizesFrom_nodes Sized.nil hs i hi
    simpa using this

/-- What is told of each node, by what is told of those ahead. -/
def accum {β : Type} (f : TNode → List β → β) : List β → List TNode → List β
  | ts, [] => ts
  | ts, n :: r => accum f (ts ++ [f n ts]) r
theorem accum_len {β : Type} (f : TNode → List β → β) : ∀ (r : List TNode) (ts : List β), (accum f ts r).length = ts.length + r.length
  | [], ts => by simp [accum]
  | n :: r, ts => by rw [accum, accum_len f r]; simp; omega
theorem accum_app {β : Type} (f : TNode → List β → β) : ∀ (r s : List TNode) (ts : List β), accum f ts (r ++ s) = accum f (accum f ts r) s
  | [], s, ts => rfl
  | n :: r, s, ts => by rw [List.cons_append, accum, accum_app f r s, accum]
theorem accum_pre {β : Type} (f : TNode → List β → β) : ∀ (r : List TNode) (ts : List β), ∃ us, accum f ts r = ts ++ us
  | [], ts => ⟨[], by simp [accum]⟩
  | n :: r, ts => by
    obtain ⟨us, h⟩ := accum_pre f r (ts ++ [f n ts])
    exact ⟨f n ts :: us, by rw [accum, h]; simp⟩
/-- The i-th thing told. -/
theorem accum_get {β : Type} (f : TNode → List β → β) (d : β) (e : List TNode) {i : Nat} (hi : i < e.length) : (accum f [] e).getD i d = f (e.getD i default) (accum f [] (e.take i)) := by
  have h : e = e.take i ++ e.getD i default :: e.drop (i + 1) := by
    have : e.getD i default = e[i] := by simp [hi]
    rw [this]; simp
  have hl : (accum f [] (e.take i)).length = i := by rw [accum_len]; simp; omega
  obtain ⟨us, hu⟩ := accum_pre f (e.drop (i + 1)) (accum f [] (e.take i) ++ [f (e.getD i default) (accum f [] (e.take i))])
  have : accum f [] e = accum f [] (e.take i) ++ f (e.getD i default) (accum f [] (e.take i)) :: us := by
    conv => lhs; rw [h]
    rw [accum_app, accum, hu]; simp
  rw [this, List.getD_eq_getElem?_getD, List.getElem?_append_right (by omega), hl]
  simp
theorem accum_take {β : Type} (f : TNode → List β → β) (d : β) (e : List TNode) {i j : Nat} (hi : i ≤ e.length) (hj : j < i) : (accum f [] (e.take i)).getD j d = (accum f [] e).getD j d := by
  have hl : (accum f [] (e.take i)).length = i := by rw [accum_len]; simp; omega
  obtain ⟨us, hu⟩ := accum_pre f (e.drop i) (accum f [] (e.take i))
  have : accum f [] e = accum f [] (e.take i) ++ us := by
    rw [← hu, ← accum_app, List.take_append_drop]
  rw [this, List.getD_eq_getElem?_getD, List.getD_eq_getElem?_getD, List.getElem?_append_left (by omega)]
theorem accum_snoc {β : Type} (f : TNode → List β → β) (e : List TNode) {i : Nat} (hi : i < e.length) : accum f [] (e.take (i + 1)) = accum f [] (e.take i) ++ [f (e.getD i default) (accum f [] (e.take i))] := by
  have : e.getD i default = e[i] := by simp [hi]
  rw [List.take_succ_eq_append_getElem hi, accum_app, accum, accum, this]
end Go.Proofs.Ythdoebgikbfndaa
end

/- Regexes: the program and the reference find the same ones right. -/
section
namespace Go.Proofs.Ythdoebgikbfndaa
open Go Go.RowKit E
set_option linter.unusedVariables false

theorem reLeaf_eq (n : TNode) (m : Int) : impl_leaf n m = if n.b = 0 ∧ 0 ≤ n.a ∧ n.a ≤ m then 0 else -1 := by
  unfold impl_leaf
  simp only [bnd, inRange_eq, Bool.and_eq_true, decide_eq_true_eq]
noncomputable abbrev reP : TNode → Int := impl_reParts
theorem reP_eq (n : TNode) : reP n = if n.kind = 1 ∨ n.kind = 2 then (if n.b = 0 ∧ n.a = 0 then 0 else -1) else if n.kind = 3 then (if n.b = 0 ∧ 0 ≤ n.a ∧ n.a ≤ 7 then 0 else -1) else if n.kind = 4 then 1 else if n.kind = 5 ∨ n.kind = 6 then 2 else -1 := by
  unfold reP impl_reParts impl_reParts.k0
  simp only [reLeaf_eq, decide_eq_true_eq]
  (repeat' split) <;> first | rfl | omega
theorem l11Parts_eq (k : Int) : spec_l11Parts k = if k = 1 ∨ k = 2 ∨ k = 3 then 0 else if k = 4 then 1 else if k = 5 ∨ k = 6 then 2 else -1 := by
  unfold spec_l11Parts spec_l11Parts.k0
  simp only [decide_eq_true_eq]
  (repeat' split) <;> first | rfl | omega
noncomputable def reBad (n : TNode) : Bool := decide (spec_l11Parts n.kind < 0) || (decide (spec_l11Parts n.kind = 0) && ((decide (n.kind = 3) && !(spec_l2Letter n.a)) || (decide (n.kind ≠ 3) && decide (n.a ≠ 0))))
theorem reBad_iff (n : TNode) : reBad n = true ↔ ¬ ((n.kind = 1 ∨ n.kind = 2) ∧ n.a = 0 ∨ n.kind = 3 ∧ 0 ≤ n.a ∧ n.a ≤ 7 ∨ n.kind = 4 ∨ n.kind = 5 ∨ n.kind = 6) := by
  unfold reBad spec_l2Letter
  rw [l1In_eq, l11Parts_eq]
  simp only [Bool.or_eq_true, Bool.and_eq_true, decide_eq_true_eq, Bool.not_eq_true', decide_eq_false_iff_not]
  split
  · omega
  · split
    · omega
    · split <;> omega
theorem specReOk_eq (e : List TNode) : spec_ReOk e = some (treeOk reP e) := by
  unfold spec_ReOk
  rw [l1In_eq]
  by_cases h : 1 ≤ e.length ∧ e.length ≤ 31
  · rw [if_neg (by simp; omega)]
    have h1 := parts_loop reBad (fun n => spec_l11Parts n.kind) e h.2
    have h2 : loop (fun s : List Int × Int => spec_ReOk.b0 e s.1 s.2) ([], 0) = some (if e.any reBad = true then (.inr false : List Int ⊕ Bool) else .inl (e.map fun n => spec_l11Parts n.kind)) := h1
    rw [h2, Option.bind_some]
    by_cases hb : e.any reBad = true
    · rw [if_pos hb, Sum.elim_inr]
      obtain ⟨n, hn, hbn⟩ := List.any_eq_true.mp hb
      rw [reBad_iff] at hbn
      unfold treeOk
      rw [sizesFrom_bad ⟨n, hn, by rw [reP_eq]; split <;> (try split) <;> (try split) <;> (try split) <;> omega⟩]
      simp
    · rw [if_neg hb, Sum.elim_inl]
      have hg : ∀ n ∈ e, ¬ reBad n = true := fun n hn k => hb (List.any_eq_true.mpr ⟨n, hn, k⟩)
      refine sizes_end reP (fun n => spec_l11Parts n.kind) e h.1 h.2 (fun n hn => ?_) (fun n hn => ?_) (fun n hn => ?_)
      · have := hg n hn
        rw [reBad_iff] at this
        rw [reP_eq, l11Parts_eq]
        split <;> (try split) <;> (try split) <;> (try split) <;> omega
      · have := hg n hn
        rw [reBad_iff] at this
        rw [l11Parts_eq]
        split <;> (try split) <;> (try split) <;> omega
      · rw [reP_eq] at hn
        split at hn <;> (try split at hn) <;> (try split at hn) <;> (try split at hn) <;> omega
  · rw [if_pos (by simp; omega)]; unfold treeOk; simp; omega
theorem implReOk_eq (e : List TNode) : impl_ReOk e = some (treeOk reP e) := by
  unfold impl_ReOk
  rw [isTree_eq]; rfl
theorem reKinds {i : Nat} {n : TNode} (hn : NodeAt reP i n) :
    (n.kind = 1 ∨ n.kind = 2 ∨ n.kind = 3) ∨ (n.kind = 4 ∧ 1 ≤ i ∧ n.a = (i : Int) - 1) ∨ ((n.kind = 5 ∨ n.kind = 6) ∧ 1 ≤ i ∧ n.b = (i : Int) - 1 ∧ 0 ≤ n.a ∧ n.a < (i : Int) - 1) := by
  have hk := reP_eq n
  unfold NodeAt at hn
  by_cases k1 : n.kind = 1 ∨ n.kind = 2
  · exact .inl (by omega)
  rw [if_neg k1] at hk
  by_cases k3 : n.kind = 3
  · exact .inl (by omega)
  rw [if_neg k3] at hk
  by_cases k4 : n.kind = 4
  · rw [if_pos k4] at hk
    exact .inr (.inl (by omega))
  rw [if_neg k4] at hk
  by_cases k5 : n.kind = 5 ∨ n.kind = 6
  · rw [if_pos k5] at hk
    exact .inr (.inr (by omega))
  · rw [if_neg k5] at hk; omega
end Go.Proofs.Ythdoebgikbfndaa
end

/- Powers of two. -/
section
namespace Go.Proofs.Ythdoebgikbfndaa
open Go Go.RowKit E
set_option linter.unusedVariables false

theorem pow31 {n : Nat} (h : n ≤ 31) : 2 ^ n ≤ 2147483648 ∧ 1 ≤ 2 ^ n := ⟨by
  have : 2 ^ n ≤ 2 ^ 31 := Nat.pow_le_pow_right (by omega) h
  exact this, Nat.two_pow_pos n⟩
theorem lt31 {n s : Nat} (hn : n ≤ 31) (h : s < 2 ^ n) : s < 2 ^ 31 := Nat.lt_of_lt_of_le h (Nat.pow_le_pow_right (by omega) hn)
end Go.Proofs.Ythdoebgikbfndaa
end

/- A bit. -/
section
namespace Go.Proofs.Ythdoebgikbfndaa
open Go Go.RowKit E
set_option linter.unusedVariables false

theorem only_eq {n : Nat} (h : n ≤ 31) : impl_only (n : Int) = ((2 ^ n : Nat) : Int) := by
  unfold impl_only
  rw [u64_nat (by omega), shl1_i (by omega)]
end Go.Proofs.Ythdoebgikbfndaa
end

/- Loops that ask whether all are so. -/
section
namespace Go.Proofs.Ythdoebgikbfndaa
open Go Go.RowKit E
set_option linter.unusedVariables false

theorem inRg (x a b : Int) : impl_inRange x a b = decide (a ≤ x ∧ x ≤ b) := inR
theorem l1Rg (x a b : Int) : spec_l1In x a b = decide (a ≤ x ∧ x ≤ b) := inR
theorem WN {k : Nat} (h : k < 9223372036854775807) : W ((k : Int) + 1) = ((k + 1 : Nat) : Int) := W_nat h
/-- A loop that asks each place. -/
theorem all_loop {body : Int → Option (Int ⊕ (Unit ⊕ Bool))} (n : Nat) (c : Nat → Bool) (go : ∀ k, k < n → body (k : Int) = some (if c k = true then .inl ((k + 1 : Nat) : Int) else .inr (.inr false))) (fin : body (n : Int) = some (.inr (.inl ()))) : loop body 0 = some (if (List.range n).all c = true then .inl () else .inr false) := by
  have key : ∀ d k, k + d = n → (∀ j, j < k → c j = true) → loop body (k : Int) = some (if (List.range n).all c = true then .inl () else .inr false) := by
    intro d
    induction d with
    | zero =>
      intro k hk he
      obtain rfl : k = n := by omega
      rw [if_pos (List.all_eq_true.mpr fun x hx => he x (List.mem_range.mp hx))]
      exact loop_end fin
    | succ d ih =>
      intro k hk he
      by_cases h : c k = true
      · rw [loop_go (s' := ((k + 1 : Nat) : Int)) (by rw [go k (by omega), if_pos h])]
        refine ih (k + 1) (by omega) fun j hj => ?_
        by_cases e : j = k
        · rw [e]; exact h
        · exact he j (by omega)
      · rw [if_neg (fun g => h (List.all_eq_true.mp g k (List.mem_range.mpr (by omega))))]
        exact loop_end (by rw [go k (by omega), if_neg h])
  exact key n 0 (by omega) (fun j hj => absurd hj (by omega))
end Go.Proofs.Ythdoebgikbfndaa
end

/- What is told of a regex's nodes: whether they have the empty word, with which letters they begin and end, which may come behind which; by the program. -/
section
namespace Go.Proofs.Ythdoebgikbfndaa
open Go Go.RowKit E
set_option linter.unusedVariables false

structure GN where
  isL : Bool
  null : Bool
  first : Nat
  last : Nat
  beh : Nat → Nat
def noGN : GN := ⟨false, false, 0, 0, fun _ => 0⟩
def folN (g : GN) (l f : Nat) : GN := { g with beh := fun q => if l.testBit q = true then g.beh q ||| f else g.beh q }
def catN (a b : GN) : GN := folN ⟨false, a.null && b.null, if a.null = true then a.first ||| b.first else a.first, if b.null = true then b.last ||| a.last else b.last, fun q => a.beh q ||| b.beh q⟩ a.last b.first
def orN (a b : GN) : GN := ⟨false, a.null || b.null, a.first ||| b.first, a.last ||| b.last, fun q => a.beh q ||| b.beh q⟩
def cntT (ts : List GN) : Nat := (ts.filter (·.isL)).length
def atN (ts : List GN) (x : Int) : GN := ts.getD x.toNat noGN
def glN (n : TNode) (ts : List GN) : GN :=
  if n.kind = 2 then ⟨false, true, 0, 0, fun _ => 0⟩
  else if n.kind = 3 then ⟨true, false, 2 ^ (cntT ts + 1), 2 ^ (cntT ts + 1), fun _ => 0⟩
  else if n.kind = 4 then folN ⟨false, true, (atN ts n.a).first, (atN ts n.a).last, (atN ts n.a).beh⟩ (atN ts n.a).last (atN ts n.a).first
  else if n.kind = 5 then catN (atN ts n.a) (atN ts n.b)
  else if n.kind = 6 then orN (atN ts n.a) (atN ts n.b)
  else noGN
def gT (g : GN) : Tglance := ⟨g.null, (g.first : Int), (g.last : Int), fun i => (g.beh i : Int)⟩

/-- No bit is above c. -/
structure GB (c : Nat) (g : GN) : Prop where
  f : g.first < 2 ^ (c + 1)
  l : g.last < 2 ^ (c + 1)
  b : ∀ q, g.beh q < 2 ^ (c + 1)
  z : ∀ q, c + 1 ≤ q → g.beh q = 0
theorem GB.mono {c d : Nat} {g : GN} (h : GB c g) (hd : c ≤ d) : GB d g := by
  have e : 2 ^ (c + 1) ≤ 2 ^ (d + 1) := Nat.pow_le_pow_right (by omega) (by omega)
  exact ⟨Nat.lt_of_lt_of_le h.f e, Nat.lt_of_lt_of_le h.l e, fun q => Nat.lt_of_lt_of_le (h.b q) e, fun q hq => h.z q (by omega)⟩
theorem GB.no (c : Nat) : GB c noGN := ⟨Nat.two_pow_pos _, Nat.two_pow_pos _, fun _ => Nat.two_pow_pos _, fun _ _ => rfl⟩
theorem noBit {c l q : Nat} (hl : l < 2 ^ (c + 1)) (hq : c + 1 ≤ q) : l.testBit q = false := Nat.testBit_lt_two_pow (Nat.lt_of_lt_of_le hl (Nat.pow_le_pow_right (by omega) hq))
theorem GB.fol {c : Nat} {g : GN} (h : GB c g) {l f : Nat} (hl : l < 2 ^ (c + 1)) (hf : f < 2 ^ (c + 1)) : GB c (folN g l f) := by
  refine ⟨h.f, h.l, fun q => ?_, fun q hq => ?_⟩
  · unfold folN; dsimp only; split
    · exact Nat.or_lt_two_pow (h.b q) hf
    · exact h.b q
  · unfold folN; dsimp only; rw [noBit hl hq, if_neg (by simp)]; exact h.z q hq
theorem GB.cat {c : Nat} {a b : GN} (h : GB c a) (k : GB c b) : GB c (catN a b) := by
  refine GB.fol ⟨?_, ?_, fun q => Nat.or_lt_two_pow (h.b q) (k.b q), fun q hq => by dsimp only; rw [h.z q hq, k.z q hq]; rfl⟩ h.l k.f
  · dsimp only; split
    · exact Nat.or_lt_two_pow h.f k.f
    · exact h.f
  · dsimp only; split
    · exact Nat.or_lt_two_pow k.l h.l
    · exact k.l
theorem GB.or {c : Nat} {a b : GN} (h : GB c a) (k : GB c b) : GB c (orN a b) :=
  ⟨Nat.or_lt_two_pow h.f k.f, Nat.or_lt_two_pow h.l k.l, fun q => Nat.or_lt_two_pow (h.b q) (k.b q), fun q hq => by unfold orN; dsimp only; rw [h.z q hq, k.z q hq]; rfl⟩

theorem has_any {s n : Nat} (hs : s < 9223372036854775808) (hn : n ≤ 63) : impl_has (s : Int) (n : Int) = s.testBit n := by
  unfold impl_has
  rw [u64_nat (by omega), bit_i hs (by omega)]
theorem upA_step (N B : Nat → Int) (k : Nat) : upA (fun i => if i < k then N i else B i) k (N k) = fun i => if i < k + 1 then N i else B i := by
  funext i
  show (if i = k then N k else if i < k then N i else B i) = if i < k + 1 then N i else B i
  by_cases c : i = k
  · subst c; rw [if_pos rfl, if_pos (by omega)]
  · rw [if_neg c]
    by_cases d : i < k
    · rw [if_pos d, if_pos (by omega)]
    · rw [if_neg d, if_neg (by omega)]
theorem ck32 {k : Nat} (h : k < 32) : ck (k : Int) 32 = some k := ck_nat h
theorem pow31' {c : Nat} (h : c ≤ 30) : 2 ^ (c + 1) ≤ 2147483648 := Nat.le_trans (Nat.pow_le_pow_right (by omega) (by omega : c + 1 ≤ 31)) (by decide)

theorem follow_eq {c : Nat} (hc : c ≤ 30) {g : GN} (h : GB c g) {l f : Nat} (hl : l < 2 ^ (c + 1)) (hf : f < 2 ^ (c + 1)) : impl_glance_follow (gT g) (l : Int) (f : Int) = some (gT (folN g l f)) := by
  have p := pow31' hc
  unfold impl_glance_follow
  have hN : ∀ i, 32 ≤ i → (folN g l f).beh i = g.beh i := fun i hi => by
    unfold folN; dsimp only; rw [noBit hl (by omega), if_neg (by simp)]
  have hh := loop_up (body := fun s : Bool × Int × Int × (Nat → Int) × Int => impl_glance_follow.b0 (l : Int) (f : Int) s.1 s.2.1 s.2.2.1 s.2.2.2.1 s.2.2.2.2) 32
    (fun k => (g.null, (g.first : Int), (g.last : Int), (fun i => if i < k then (((folN g l f).beh i : Nat) : Int) else (g.beh i : Int)), (k : Int))) (gT (folN g l f)) (fun k hk => by
      dsimp only
      unfold impl_glance_follow.b0
      rw [if_pos (by omega), has_any (by omega) (by omega), ck32 hk, Option.bind_some, Option.bind_some, WN (by omega)]
      dsimp only
      rw [if_neg (by omega : ¬ k < k)]
      have hb := h.b k
      rw [bOr_i (by omega) (by omega)]
      have e : (((folN g l f).beh k : Nat) : Int) = if l.testBit k = true then ((g.beh k ||| f : Nat) : Int) else (g.beh k : Int) := by
        unfold folN; dsimp only; split <;> rfl
      by_cases t : l.testBit k = true
      · rw [if_pos t] at e ⊢
        rw [← e, upA_step]
      · rw [if_neg t] at e ⊢
        have hf : (fun i => if i < k then (((folN g l f).beh i : Nat) : Int) else (g.beh i : Int)) = fun i => if i < k + 1 then (((folN g l f).beh i : Nat) : Int) else (g.beh i : Int) := by
          funext i
          by_cases d : i < k
          · rw [if_pos d, if_pos (by omega)]
          · by_cases d2 : i = k
            · subst d2; rw [if_neg d, if_pos (by omega), e]
            · rw [if_neg d, if_neg (by omega)]
        rw [hf]) (by
      dsimp only
      unfold impl_glance_follow.b0
      rw [if_neg (by omega)]
      unfold gT
      congr 3
      have : (fun i => if i < 32 then (((folN g l f).beh i : Nat) : Int) else (g.beh i : Int)) = fun i => (((folN g l f).beh i : Nat) : Int) := by
        funext i
        by_cases d : i < 32
        · rw [if_pos d]
        · rw [if_neg d, hN i (by omega)]
      rw [this]
      try rfl) 0 (Nat.zero_le _)
  have h0 : (fun i => if i < 0 then (((folN g l f).beh i : Nat) : Int) else (g.beh i : Int)) = fun i => (g.beh i : Int) := by
    funext i; rw [if_neg (by omega)]
  rw [h0] at hh
  have hh2 : loop (fun s : Bool × Int × Int × (Nat → Int) × Int => impl_glance_follow.b0 (l : Int) (f : Int) s.1 s.2.1 s.2.2.1 s.2.2.2.1 s.2.2.2.2) ((gT g).null, (gT g).first, (gT g).last, (gT g).behind, 0) = _ := hh
  rw [hh2]; rfl
/-- The loop that puts two together. -/
theorem both_loop {body : Bool × Int × Int × (Nat → Int) × Int → Option ((Bool × Int × Int × (Nat → Int) × Int) ⊕ (Bool × Int × Int × (Nat → Int)))} {a b : GN} {c : Nat} (hc : c ≤ 30) (ha : GB c a) (hb : GB c b)
    (hbody : ∀ x y z F i, body (x, y, z, F, i) = if i < 32 then (ck i 32).bind fun m40 => (ck i 32).bind fun m44 => (ck i 32).bind fun m48 => some (.inl (x, y, z, upA F m48 (bOr .i64 ((gT a).behind m40) ((gT b).behind m44)), W (i + 1))) else some (.inr (x, y, z, F))) (x : Bool) (y z : Int) :
    loop body (x, y, z, (fun _ => 0), 0) = some (x, y, z, fun i => ((a.beh i ||| b.beh i : Nat) : Int)) := by
  have p := pow31' hc
  have hh := loop_up (body := body) 32 (fun k => (x, y, z, (fun i => if i < k then ((a.beh i ||| b.beh i : Nat) : Int) else 0), (k : Int))) (x, y, z, fun i => ((a.beh i ||| b.beh i : Nat) : Int)) (fun k hk => by
      rw [hbody, if_pos (by omega), ck32 hk, Option.bind_some, Option.bind_some, Option.bind_some, WN (by omega)]
      have h1 := ha.b k
      have h2 := hb.b k
      have e : bOr .i64 ((gT a).behind k) ((gT b).behind k) = ((a.beh k ||| b.beh k : Nat) : Int) := bOr_i (a := a.beh k) (b := b.beh k) (by omega) (by omega)
      rw [e, upA_step (fun i => ((a.beh i ||| b.beh i : Nat) : Int)) (fun _ => 0)]) (by
      rw [hbody, if_neg (by omega)]
      have : (fun i => if i < 32 then ((a.beh i ||| b.beh i : Nat) : Int) else 0) = fun i => ((a.beh i ||| b.beh i : Nat) : Int) := by
        funext i
        by_cases d : i < 32
        · rw [if_pos d]
        · rw [if_neg d, ha.z i (by omega), hb.z i (by omega)]; rfl
      rw [this]) 0 (Nat.zero_le _)
  have h0 : (fun i => if i < 0 then ((a.beh i ||| b.beh i : Nat) : Int) else 0) = fun _ => (0 : Int) := by
    funext i; rw [if_neg (by omega)]
  rw [h0] at hh
  exact hh
theorem orOf_eq {c : Nat} (hc : c ≤ 30) {a b : GN} (ha : GB c a) (hb : GB c b) : impl_orOf (gT a) (gT b) = some (gT (orN a b)) := by
  have p := pow31' hc
  have h1 := ha.f; have h2 := hb.f; have h3 := ha.l; have h4 := hb.l
  unfold impl_orOf
  rw [bnd_eq]
  have e1 : bOr .i64 (gT a).first (gT b).first = ((a.first ||| b.first : Nat) : Int) := bOr_i (a := a.first) (b := b.first) (by omega) (by omega)
  have e2 : bOr .i64 (gT a).last (gT b).last = ((a.last ||| b.last : Nat) : Int) := bOr_i (a := a.last) (b := b.last) (by omega) (by omega)
  rw [e1, e2, both_loop hc ha hb (body := fun s : Bool × Int × Int × (Nat → Int) × Int => impl_orOf.b0 (gT a) (gT b) s.1 s.2.1 s.2.2.1 s.2.2.2.1 s.2.2.2.2) (fun x y z F i => rfl)]
  rfl
theorem catOf_eq {c : Nat} (hc : c ≤ 30) {a b : GN} (ha : GB c a) (hb : GB c b) : impl_catOf (gT a) (gT b) = some (gT (catN a b)) := by
  have p := pow31' hc
  have h1 := ha.f; have h2 := hb.f; have h3 := ha.l; have h4 := hb.l
  have e1 : bOr .i64 (gT a).first (gT b).first = ((a.first ||| b.first : Nat) : Int) := bOr_i (a := a.first) (b := b.first) (by omega) (by omega)
  have e2 : bOr .i64 (gT b).last (gT a).last = ((b.last ||| a.last : Nat) : Int) := bOr_i (a := b.last) (b := a.last) (by omega) (by omega)
  have tail : ∀ (x y : Nat), x < 2 ^ (c + 1) → y < 2 ^ (c + 1) → impl_catOf.k1 (gT a) (gT b) (a.null && b.null) (x : Int) (y : Int) (fun _ => 0) = some (gT (folN ⟨false, a.null && b.null, x, y, fun q => a.beh q ||| b.beh q⟩ a.last b.first)) := fun x y hx hy => by
    unfold impl_catOf.k1
    rw [both_loop hc ha hb (body := fun s : Bool × Int × Int × (Nat → Int) × Int => impl_catOf.b0 (gT a) (gT b) s.1 s.2.1 s.2.2.1 s.2.2.2.1 s.2.2.2.2) (fun x y z F i => rfl), Option.bind_some]
    unfold impl_catOf.k2
    have hg : GB c ⟨false, a.null && b.null, x, y, fun q => a.beh q ||| b.beh q⟩ := ⟨hx, hy, fun q => Nat.or_lt_two_pow (ha.b q) (hb.b q), fun q hq => by dsimp only; rw [ha.z q hq, hb.z q hq]; rfl⟩
    have := follow_eq hc hg h3 h2
    change (impl_glance_follow (gT ⟨false, a.null && b.null, x, y, fun q => a.beh q ||| b.beh q⟩) ((a.last : Nat) : Int) ((b.first : Nat) : Int)).bind _ = _
    rw [this]; rfl
  unfold impl_catOf catN
  rw [bnd_eq]
  unfold impl_catOf.k0
  rw [e1, e2]
  have ea : (gT a).null = a.null := rfl
  have eb : (gT b).null = b.null := rfl
  rw [ea, eb]
  by_cases n1 : a.null = true
  · rw [if_pos n1, if_pos n1]
    by_cases n2 : b.null = true
    · rw [if_pos n2, if_pos n2]; exact tail _ _ (Nat.or_lt_two_pow h1 h2) (Nat.or_lt_two_pow h4 h3)
    · rw [if_neg n2, if_neg n2]; exact tail _ _ (Nat.or_lt_two_pow h1 h2) h4
  · rw [if_neg n1, if_neg n1]
    by_cases n2 : b.null = true
    · rw [if_pos n2, if_pos n2]; exact tail _ _ h1 (Nat.or_lt_two_pow h4 h3)
    · rw [if_neg n2, if_neg n2]; exact tail _ _ h1 h4
end Go.Proofs.Ythdoebgikbfndaa
end

/- What is told of all nodes of a regex, and its letters; by the program. -/
section
namespace Go.Proofs.Ythdoebgikbfndaa
open Go Go.RowKit E
set_option linter.unusedVariables false

theorem flt1 {α : Type} (p : α → Bool) (a : α) : [a].filter p = if p a = true then [a] else [] := by
  cases h : p a <;> simp [h]
theorem glN_def (n : TNode) (ts : List GN) : glN n ts = if n.kind = 2 then ⟨false, true, 0, 0, fun _ => 0⟩
  else if n.kind = 3 then ⟨true, false, 2 ^ (cntT ts + 1), 2 ^ (cntT ts + 1), fun _ => 0⟩
  else if n.kind = 4 then folN ⟨false, true, (atN ts n.a).first, (atN ts n.a).last, (atN ts n.a).beh⟩ (atN ts n.a).last (atN ts n.a).first
  else if n.kind = 5 then catN (atN ts n.a) (atN ts n.b)
  else if n.kind = 6 then orN (atN ts n.a) (atN ts n.b)
  else noGN := rfl
def tabG (e : List TNode) : List GN := accum glN [] e
def G (e : List TNode) (i : Nat) : GN := (tabG e).getD i noGN
def isLt (n : TNode) : Bool := decide (n.kind = 3)
def ltN (e : List TNode) (i : Nat) : Nat := ((e.take i).filter isLt).length
def letsN (e : List TNode) : List Int := (e.filter isLt).map (·.a)
theorem take_snoc {e : List TNode} {i : Nat} (hi : i < e.length) : e.take (i + 1) = e.take i ++ [e.getD i default] := by
  rw [List.take_succ_eq_append_getElem hi]; simp [List.getD_eq_getElem?_getD, hi]
theorem ltN_succ {e : List TNode} {i : Nat} (hi : i < e.length) : ltN e (i + 1) = ltN e i + if isLt (e.getD i default) = true then 1 else 0 := by
  unfold ltN
  rw [take_snoc hi, List.filter_append, List.length_append, flt1]
  split <;> simp_all
theorem ltN_mono {e : List TNode} : ∀ {i j : Nat}, i ≤ j → ltN e i ≤ ltN e j := fun {i j} h => by
  unfold ltN
  have e1 : e.take i = (e.take j).take i := by rw [List.take_take, Nat.min_eq_left h]
  rw [e1]
  exact (List.Sublist.filter _ (List.take_sublist _ _)).length_le
theorem ltN_le (e : List TNode) (i : Nat) : ltN e i ≤ i := Nat.le_trans (List.length_filter_le _ _) (by simp; omega)
theorem glN_isL (n : TNode) (ts : List GN) : (glN n ts).isL = isLt n := by
  unfold glN isLt
  by_cases k2 : n.kind = 2
  · rw [if_pos k2, decide_eq_false (by omega)]
  rw [if_neg k2]
  by_cases k3 : n.kind = 3
  · rw [if_pos k3, decide_eq_true k3]
  rw [if_neg k3, decide_eq_false k3]
  split
  · rfl
  · split
    · rfl
    · split <;> rfl
theorem cnt_eq (e : List TNode) : ∀ i, i ≤ e.length → cntT (accum glN [] (e.take i)) = ltN e i
  | 0, _ => by simp [accum, cntT, ltN]
  | i + 1, h => by
    have hi : i < e.length := by omega
    have ih := cnt_eq e i (by omega)
    rw [accum_snoc glN e hi, ltN_succ hi]
    unfold cntT at ih ⊢
    rw [List.filter_append, List.length_append, ih, flt1, glN_isL]
    congr 1
    split <;> simp_all
theorem G_step {e : List TNode} {i : Nat} (hi : i < e.length) : G e i = glN (e.getD i default) (accum glN [] (e.take i)) := accum_get glN noGN e hi
theorem at_eq {e : List TNode} {i : Nat} (hi : i ≤ e.length) {x : Int} (h0 : 0 ≤ x) (h1 : x < i) : atN (accum glN [] (e.take i)) x = G e x.toNat := accum_take glN noGN e hi (by omega)
theorem G_ok {e : List TNode} (he : Nodes reP e) : ∀ i, i < e.length → GB (ltN e (i + 1)) (G e i) := by
  intro i
  induction i using Nat.strongRecOn with
  | _ i ih =>
    intro hi
    have hk := reKinds (he.2.2 i hi)
    rw [G_step hi]
    have hm : ∀ {x : Int}, 0 ≤ x → x < i → GB (ltN e (i + 1)) (atN (accum glN [] (e.take i)) x) := fun {x} h0 h1 => by
      rw [at_eq (Nat.le_of_lt hi) h0 h1]
      exact (ih x.toNat (by omega) (by omega)).mono (ltN_mono (by omega))
    rw [glN_def]
    by_cases k2 : (e.getD i default).kind = 2
    · rw [if_pos k2]; exact ⟨Nat.two_pow_pos _, Nat.two_pow_pos _, fun _ => Nat.two_pow_pos _, fun _ _ => rfl⟩
    rw [if_neg k2]
    by_cases k3 : (e.getD i default).kind = 3
    · rw [if_pos k3, cnt_eq e i (by omega)]
      have : ltN e (i + 1) = ltN e i + 1 := by rw [ltN_succ hi, if_pos (by unfold isLt; exact decide_eq_true k3)]
      have p : 2 ^ (ltN e i + 1) < 2 ^ (ltN e (i + 1) + 1) := Nat.pow_lt_pow_right (by omega) (by omega)
      exact ⟨p, p, fun _ => Nat.two_pow_pos _, fun _ _ => rfl⟩
    rw [if_neg k3]
    by_cases k4 : (e.getD i default).kind = 4
    · rw [if_pos k4]
      have ha := hm (x := (e.getD i default).a) (by omega) (by omega)
      exact GB.fol (g := ⟨false, true, _, _, _⟩) ⟨ha.f, ha.l, ha.b, ha.z⟩ ha.l ha.f
    rw [if_neg k4]
    by_cases k5 : (e.getD i default).kind = 5
    · rw [if_pos k5]; exact GB.cat (hm (by omega) (by omega)) (hm (by omega) (by omega))
    rw [if_neg k5]
    by_cases k6 : (e.getD i default).kind = 6
    · rw [if_pos k6]; exact GB.or (hm (by omega) (by omega)) (hm (by omega) (by omega))
    rw [if_neg k6]; exact GB.no _
theorem set_end {α : Type} (A : List α) (z v : α) (k : Nat) : (A ++ List.replicate (k + 1) z).set A.length v = A ++ [v] ++ List.replicate k z := by
  rw [List.set_append_right _ _ (Nat.le_refl _), Nat.sub_self, List.replicate_succ, List.set_cons_zero, List.append_assoc]; rfl
theorem glanceOf_eq {e : List TNode} (he : Nodes reP e) (hL : ltN e e.length ≤ 30) : impl_glanceOf e = some (gT (G e (e.length - 1)), letsN e) := by
  have h31 := he.2.1
  have h1 := he.1
  unfold impl_glanceOf
  rw [mk_ok (by omega) (by omega), Option.bind_some, Int.toNat_natCast]
  have hh := loop_up (body := fun s : List Tglance × List Int × Int => impl_glanceOf.b0 e s.1 s.2.1 s.2.2) e.length
    (fun k => ((accum glN [] (e.take k)).map gT ++ List.replicate (e.length - k) (gT noGN), letsN (e.take k), (k : Int))) ((accum glN [] e).map gT, letsN e) (fun k hk => by
      have hn := reKinds (he.2.2 k hk)
      have hlen : (accum glN [] (e.take k)).length = k := by rw [accum_len]; simp; omega
      have hrep : e.length - k = (e.length - (k + 1)) + 1 := by omega
      have hlt := ltN_mono (e := e) (Nat.le_of_lt hk)
      have hcnt := cnt_eq e k (Nat.le_of_lt hk)
      have hll : (letsN (e.take k)).length = ltN e k := by unfold letsN ltN; simp
      have hck : ck (k : Int) ((accum glN [] (e.take k)).map gT ++ List.replicate (e.length - k) (gT noGN)).length = some k := ck_nat (by simp [hlen]; omega)
      have hset : ∀ v : Tglance, ((accum glN [] (e.take k)).map gT ++ List.replicate (e.length - k) (gT noGN)).set k v = (accum glN [] (e.take k)).map gT ++ [v] ++ List.replicate (e.length - (k + 1)) (gT noGN) := fun v => by
        rw [hrep]
        have := set_end ((accum glN [] (e.take k)).map gT) (gT noGN) v (e.length - (k + 1))
        rw [List.length_map, hlen] at this
        exact this
      have hix : ∀ {x : Int}, 0 ≤ x → x < k → ix ((accum glN [] (e.take k)).map gT ++ List.replicate (e.length - k) (gT noGN)) x = some (gT (atN (accum glN [] (e.take k)) x)) := fun {x} h0 h1 => by
        obtain ⟨j, rfl⟩ : ∃ j : Nat, x = j := ⟨x.toNat, by omega⟩
        rw [ix_nat (by simp [hlen]; omega)]
        have hj : j < (accum glN [] (e.take k)).length := by omega
        congr 1
        unfold atN
        rw [Int.toNat_natCast, List.getD_eq_getElem?_getD, List.getElem?_append_left (by simpa using hj), List.getElem?_map, List.getElem?_eq_getElem hj]
        simp [List.getD_eq_getElem?_getD, hj]
      have hgb : ∀ {x : Int}, 0 ≤ x → x < k → GB 30 (atN (accum glN [] (e.take k)) x) := fun {x} h0 h1 => by
        rw [at_eq (Nat.le_of_lt hk) h0 h1]
        exact (G_ok he x.toNat (by omega)).mono (Nat.le_trans (ltN_mono (by omega)) hL)
      rw [accum_snoc glN e hk, List.map_append, take_snoc hk]
      have hlets : letsN (e.take k ++ [e.getD k default]) = if isLt (e.getD k default) = true then letsN (e.take k) ++ [(e.getD k default).a] else letsN (e.take k) := by
        unfold letsN
        rw [List.filter_append, List.map_append, flt1]
        split <;> simp_all
      rw [hlets]
      dsimp only
      unfold impl_glanceOf.b0
      rw [if_pos (by omega), ix_nat hk, Option.bind_some]
      generalize e.getD k default = n at hn ⊢
      unfold impl_glanceOf.k1 isLt
      rw [WN (by omega), glN_def n]
      by_cases k2 : n.kind = 2
      · have k3' : ¬ (decide (n.kind = 3) = true) := by rw [decide_eq_false (by omega)]; simp
        rw [if_pos k2, hck, Option.bind_some, hset, if_pos k2, if_neg k3']; rfl
      rw [if_neg k2]
      by_cases k3 : n.kind = 3
      · rw [if_pos k3, app_small (by simp; omega) (by omega), Option.bind_some, hck, Option.bind_some, hset, if_pos (decide_eq_true k3), if_neg k2, if_pos k3]
        have ho : impl_only (((letsN (e.take k) ++ [n.a]).length : Nat) : Int) = ((2 ^ (cntT (accum glN [] (e.take k)) + 1) : Nat) : Int) := by
          rw [hcnt, List.length_append, hll, List.length_singleton]
          exact only_eq (by omega)
        rw [ho]; rfl
      have k3' : ¬ (decide (n.kind = 3) = true) := by rw [decide_eq_false k3]; simp
      rw [if_neg k3, if_neg k3', if_neg k2, if_neg k3]
      by_cases k4 : n.kind = 4
      · rw [if_pos k4, if_pos k4, hix (by omega) (by omega), Option.bind_some]
        have hg := hgb (x := n.a) (by omega) (by omega)
        have := follow_eq (c := 30) (by omega) (g := ⟨false, true, (atN (accum glN [] (e.take k)) n.a).first, (atN (accum glN [] (e.take k)) n.a).last, (atN (accum glN [] (e.take k)) n.a).beh⟩) ⟨hg.f, hg.l, hg.b, hg.z⟩ hg.l hg.f
        change ((impl_glance_follow (gT ⟨false, true, (atN (accum glN [] (e.take k)) n.a).first, (atN (accum glN [] (e.take k)) n.a).last, (atN (accum glN [] (e.take k)) n.a).beh⟩) (((atN (accum glN [] (e.take k)) n.a).last : Nat) : Int) (((atN (accum glN [] (e.take k)) n.a).first : Nat) : Int)).bind _) = _
        rw [this, Option.bind_some, hck, Option.bind_some, hset]; rfl
      rw [if_neg k4, if_neg k4]
      by_cases k5 : n.kind = 5
      · rw [if_pos k5, if_pos k5, hix (by omega) (by omega), Option.bind_some, hix (by omega) (by omega), Option.bind_some, catOf_eq (c := 30) (by omega) (hgb (by omega) (by omega)) (hgb (by omega) (by omega)), Option.bind_some, hck, Option.bind_some, hset]; rfl
      rw [if_neg k5, if_neg k5]
      by_cases k6 : n.kind = 6
      · rw [if_pos k6, if_pos k6, hix (by omega) (by omega), Option.bind_some, hix (by omega) (by omega), Option.bind_some, orOf_eq (c := 30) (by omega) (hgb (by omega) (by omega)) (hgb (by omega) (by omega)), Option.bind_some, hck, Option.bind_some, hset]; rfl
      rw [if_neg k6, if_neg k6, hrep, List.replicate_succ, List.append_cons]
      rfl) (by
      dsimp only
      unfold impl_glanceOf.b0
      rw [if_neg (by omega), List.take_length, Nat.sub_self, List.replicate_zero, List.append_nil]) 0 (Nat.zero_le _)
  have hh2 : loop (fun s : List Tglance × List Int × Int => impl_glanceOf.b0 e s.1 s.2.1 s.2.2) (List.replicate e.length (Tglance.mk false 0 0 (fun _ => 0)), [], 0) = some ((accum glN [] e).map gT, letsN e) := hh
  rw [hh2, Option.bind_some]
  unfold impl_glanceOf.k0
  have hlen : (accum glN [] e).length = e.length := by rw [accum_len]; simp
  have w : W ((e.length : Int) - 1) = ((e.length - 1 : Nat) : Int) := by rw [W, W_eq (by omega) (by omega)]; omega
  rw [w, ix_nat (by simp [hlen]; omega), Option.bind_some]
  congr 2
  unfold G tabG
  have hj : e.length - 1 < (accum glN [] e).length := by omega
  simp [List.getD_eq_getElem?_getD, hj]
end Go.Proofs.Ythdoebgikbfndaa
end

/- The trees of a regex's nodes, by how many nodes they have. -/
section
namespace Go.Proofs.Ythdoebgikbfndaa
open Go Go.RowKit E
set_option linter.unusedVariables false

/-- The tree at node i has s nodes: those from i + 1 - s to i. -/
inductive Sub (e : List TNode) : Nat → Nat → Prop
  | leaf {i : Nat} (hi : i < e.length) (hk : (e.getD i default).kind = 1 ∨ (e.getD i default).kind = 2 ∨ (e.getD i default).kind = 3) : Sub e i 1
  | star {i s : Nat} (hi : i < e.length) (hk : (e.getD i default).kind = 4) (h0 : 1 ≤ i) (ha : (e.getD i default).a = (i : Int) - 1) (h : Sub e (i - 1) s) : Sub e i (s + 1)
  | two {i s t : Nat} (hi : i < e.length) (hk : (e.getD i default).kind = 5 ∨ (e.getD i default).kind = 6) (h0 : t + 1 ≤ i) (hb : (e.getD i default).b = (i : Int) - 1) (ha : (e.getD i default).a = (i : Int) - 1 - t) (h : Sub e (i - 1) t) (k : Sub e (i - 1 - t) s) : Sub e i (s + t + 1)
theorem Sub.bnd {e : List TNode} {i s : Nat} (h : Sub e i s) : 1 ≤ s ∧ s ≤ i + 1 ∧ i < e.length := by
  induction h with
  | leaf hi hk => omega
  | star hi hk h0 ha h ih => omega
  | two hi hk h0 hb ha h k ih1 ih2 => omega
theorem getD_snoc {ss : List Int} {x : Int} {j : Nat} (h : j < (ss ++ [x]).length) : (ss ++ [x]).getD j 0 = if j < ss.length then ss.getD j 0 else x := by
  rw [getD_app]
  simp at h
  by_cases c : j < ss.length
  · rw [if_pos c, if_pos c]
  · rw [if_neg c, if_neg c, if_pos (by omega)]
theorem sizes_sub {e : List TNode} : ∀ (r pre : List TNode) (ss s : List Int), e = pre ++ r → ss.length = pre.length → Sized ss → (∀ j, j < ss.length → Sub e j (ss.getD j 0).toNat) → sizesFrom reP ss r = some s → ∀ j, j < s.length → Sub e j (s.getD j 0).toNat
  | [], pre, ss, s, _, _, _, hs, h, j, hj => by
    unfold sizesFrom at h
    cases h
    exact hs j hj
  | n :: r, pre, ss, s, he, hl, hS, hs, h, j, hj => by
    unfold sizesFrom at h
    split at h
    · rename_i ss' h1
      obtain ⟨g1, g2⟩ := sizeStep_sized hS h1
      refine sizes_sub r (pre ++ [n]) ss' s (by rw [he]; simp) (by simp; omega) g1 ?_ h j hj
      have hn : e.getD ss.length default = n := by rw [hl, he]; simp
      have hlt : ss.length < e.length := by rw [hl, he]; simp
      have hna := sizeStep_node hS h1
      have hkk := reKinds hna
      have hrp := reP_eq n
      intro q hq
      unfold sizeStep at h1
      split at h1
      · rename_i c
        cases h1
        rw [getD_snoc hq]
        by_cases d : q < ss.length
        · rw [if_pos d]; exact hs q d
        · rw [if_neg d]
          have : q = ss.length := by simp at hq; omega
          subst this
          refine .leaf hlt ?_
          rw [hn]
          rw [c] at hrp
          repeat' split at hrp
          all_goals omega
      · rename_i c0
        split at h1
        · rename_i c
          split at h1
          · rename_i d0
            cases h1
            rw [getD_snoc hq]
            by_cases d : q < ss.length
            · rw [if_pos d]; exact hs q d
            · rw [if_neg d]
              have : q = ss.length := by simp at hq; omega
              subst this
              have hsz := hS (ss.length - 1) (by omega)
              have e1 : (1 + ss.getD (ss.length - 1) 0).toNat = (ss.getD (ss.length - 1) 0).toNat + 1 := by omega
              rw [e1]
              refine .star hlt ?_ (by omega) (by rw [hn]; omega) (hs _ (by omega))
              rw [hn]
              rw [c] at hrp
              repeat' split at hrp
              all_goals omega
          · cases h1
        · split at h1
          · rename_i c
            split at h1
            · rename_i d0
              cases h1
              rw [getD_snoc hq]
              by_cases d : q < ss.length
              · rw [if_pos d]; exact hs q d
              · rw [if_neg d]
                have : q = ss.length := by simp at hq; omega
                subst this
                have hsz := hS (ss.length - 1) (by omega)
                have hsa := hS n.a.toNat (by omega)
                have e1 : (1 + ss.getD (ss.length - 1) 0 + ss.getD n.a.toNat 0).toNat = (ss.getD n.a.toNat 0).toNat + (ss.getD (ss.length - 1) 0).toNat + 1 := by omega
                have e2 : n.a.toNat = ss.length - 1 - (ss.getD (ss.length - 1) 0).toNat := by omega
                rw [e1]
                refine .two hlt ?_ (by omega) (by rw [hn]; omega) (by rw [hn]; omega) (hs _ (by omega)) (by rw [← e2]; exact hs _ (by omega))
                rw [hn]
                rw [c] at hrp
                repeat' split at hrp
                all_goals omega
            · cases h1
          · cases h1
    · cases h
theorem treeOk_sub {e : List TNode} (h : treeOk reP e = true) : Sub e (e.length - 1) e.length := by
  unfold treeOk at h
  rw [Bool.and_eq_true, decide_eq_true_eq] at h
  obtain ⟨h1, h2⟩ := h
  cases hs : sizesFrom reP [] e with
  | none => rw [hs] at h2; cases h2
  | some s =>
    rw [hs] at h2
    have hsz := sizesFrom_sized Sized.nil hs
    have h3 := sizes_sub e [] [] s rfl rfl Sized.nil (fun j hj => by simp at hj) hs (e.length - 1) (by rw [hsz.2]; simp; omega)
    have h4 : s.getD (e.length - 1) 0 = (e.length : Int) := by simpa using h2
    rw [h4, Int.toNat_natCast] at h3
    exact h3
end Go.Proofs.Ythdoebgikbfndaa
end

/- Members of sets, by the reference. -/
section
namespace Go.Proofs.Ythdoebgikbfndaa
open Go Go.RowKit E
set_option linter.unusedVariables false

theorem and31 {x : Int} (h : 0 ≤ x ∧ x ≤ 30) : bAnd .i64 x 31 = x := by
  obtain ⟨y, rfl⟩ : ∃ y : Nat, x = y := ⟨x.toNat, by omega⟩
  have := bAnd_i (a := y) (b := 31) (by omega) (by omega)
  rw [show ((31 : Nat) : Int) = 31 from rfl] at this
  rw [this, show (31 : Nat) = 2 ^ 5 - 1 from rfl, Nat.and_two_pow_sub_one_eq_mod, Nat.mod_eq_of_lt (by omega)]
theorem l1Bit_eq {x : Int} (h : 0 ≤ x ∧ x ≤ 30) : spec_l1Bit x = some ((2 ^ x.toNat : Nat) : Int) := by
  unfold spec_l1Bit
  rw [and31 h, decide_eq_true h.1, chk_t, Option.bind_some]
  have := shl1_i (n := x.toNat) (by omega)
  rw [show ((x.toNat : Nat) : Int) = x by omega] at this
  rw [this]
theorem and_pow (s n : Nat) : decide (s &&& 2 ^ n ≠ 0) = s.testBit n := by
  cases h : s.testBit n with
  | false =>
    have : s &&& 2 ^ n = 0 := Nat.eq_of_testBit_eq fun i => by
      rw [Nat.testBit_and, Nat.testBit_two_pow, Nat.zero_testBit]
      by_cases e : n = i
      · subst e; rw [h]; rfl
      · simp [e]
    simp [this]
  | true =>
    rw [decide_eq_true_eq]
    intro g
    have := congrArg (fun x => x.testBit n) g
    simp [Nat.testBit_and, h, Nat.testBit_two_pow] at this
theorem l1Has_eq {s : Nat} (hs : s < 2 ^ 31) {x : Int} (h : 0 ≤ x ∧ x ≤ 30) : spec_l1Has (s : Int) x = some (s.testBit x.toNat) := by
  unfold spec_l1Has
  have hp := pow31 (n := x.toNat) (by omega)
  have h31 : (2 : Nat) ^ 31 = 2147483648 := rfl
  rw [bnd_eq, show spec_l1In x 0 30 = decide (0 ≤ x ∧ x ≤ 30) from inR, decide_eq_true h, whenO_t, l1Bit_eq h, Option.bind_some, bAnd_i (by omega) (by omega), Bool.true_and, ← and_pow]
  congr 1
  rw [decide_eq_decide]; omega
end Go.Proofs.Ythdoebgikbfndaa
end

/- Glances of the trees' nodes: letters are few; what may come behind what, by nodes; the reference's sets of letters. -/
section
namespace Go.Proofs.Ythdoebgikbfndaa
open Go Go.RowKit E
set_option linter.unusedVariables false

theorem G_eq {e : List TNode} (he : Nodes reP e) {i : Nat} (hi : i < e.length) : G e i = if (e.getD i default).kind = 2 then ⟨false, true, 0, 0, fun _ => 0⟩
  else if (e.getD i default).kind = 3 then ⟨true, false, 2 ^ (ltN e i + 1), 2 ^ (ltN e i + 1), fun _ => 0⟩
  else if (e.getD i default).kind = 4 then folN ⟨false, true, (G e (e.getD i default).a.toNat).first, (G e (e.getD i default).a.toNat).last, (G e (e.getD i default).a.toNat).beh⟩ (G e (e.getD i default).a.toNat).last (G e (e.getD i default).a.toNat).first
  else if (e.getD i default).kind = 5 then catN (G e (e.getD i default).a.toNat) (G e (e.getD i default).b.toNat)
  else if (e.getD i default).kind = 6 then orN (G e (e.getD i default).a.toNat) (G e (e.getD i default).b.toNat)
  else noGN := by
  have hk := reKinds (he.2.2 i hi)
  rw [G_step hi, glN_def, cnt_eq e i (Nat.le_of_lt hi)]
  by_cases k2 : (e.getD i default).kind = 2
  · rw [if_pos k2, if_pos k2]
  rw [if_neg k2, if_neg k2]
  by_cases k3 : (e.getD i default).kind = 3
  · rw [if_pos k3, if_pos k3]
  rw [if_neg k3, if_neg k3]
  by_cases k4 : (e.getD i default).kind = 4
  · rw [if_pos k4, if_pos k4, at_eq (Nat.le_of_lt hi) (by omega) (by omega)]
  rw [if_neg k4, if_neg k4]
  by_cases k5 : (e.getD i default).kind = 5
  · rw [if_pos k5, if_pos k5, at_eq (Nat.le_of_lt hi) (by omega) (by omega), at_eq (Nat.le_of_lt hi) (by omega) (by omega)]
  rw [if_neg k5, if_neg k5]
  by_cases k6 : (e.getD i default).kind = 6
  · rw [if_pos k6, if_pos k6, at_eq (Nat.le_of_lt hi) (by omega) (by omega), at_eq (Nat.le_of_lt hi) (by omega) (by omega)]
  rw [if_neg k6, if_neg k6]

/-- The letters of a tree are at most half of its nodes. -/
theorem sub_letters {e : List TNode} {i s : Nat} (h : Sub e i s) : 2 * ltN e (i + 1) ≤ 2 * ltN e (i + 1 - s) + s + 1 := by
  induction h with
  | leaf hi hk =>
    rename_i i
    rw [Nat.add_sub_cancel, ltN_succ hi]
    split <;> omega
  | star hi hk h0 ha h ih =>
    rename_i i s
    have e1 : i - 1 + 1 = i := by omega
    rw [e1] at ih
    have hn : isLt (e.getD i default) = false := by unfold isLt; exact decide_eq_false (by omega)
    rw [ltN_succ hi, hn]
    have e2 : i + 1 - (s + 1) = i - s := by omega
    rw [e2, if_neg (by simp)]
    omega
  | two hi hk h0 hb ha h k ih1 ih2 =>
    rename_i i s t
    have b1 := h.bnd
    have b2 := k.bnd
    have e1 : i - 1 + 1 = i := by omega
    have e3 : i - 1 - t + 1 = i - t := by omega
    rw [e1] at ih1
    rw [e3] at ih2
    have hn : isLt (e.getD i default) = false := by unfold isLt; exact decide_eq_false (by omega)
    rw [ltN_succ hi, hn]
    have e2 : i + 1 - (s + t + 1) = i - t - s := by omega
    rw [e2, if_neg (by simp)]
    omega
theorem few_letters {e : List TNode} (h : treeOk reP e = true) : ltN e e.length ≤ 16 := by
  have h1 := (treeOk_nodes h).1
  have h2 := (treeOk_nodes h).2.1
  have h3 := sub_letters (treeOk_sub h)
  rw [show e.length - 1 + 1 = e.length by omega, Nat.sub_self] at h3
  have : ltN e 0 = 0 := by simp [ltN]
  omega

/-- What a node adds to what may come behind a letter. -/
def con (e : List TNode) (j q : Nat) : Nat :=
  if (e.getD j default).kind = 4 then (if (G e (e.getD j default).a.toNat).last.testBit q = true then (G e (e.getD j default).a.toNat).first else 0)
  else if (e.getD j default).kind = 5 then (if (G e (e.getD j default).a.toNat).last.testBit q = true then (G e (e.getD j default).b.toNat).first else 0)
  else 0
theorem beh_iff {e : List TNode} (he : Nodes reP e) {i s : Nat} (h : Sub e i s) (q r : Nat) : ((G e i).beh q).testBit r = true ↔ ∃ j, i + 1 ≤ j + s ∧ j ≤ i ∧ (con e j q).testBit r = true := by
  induction h with
  | leaf hi hk =>
    rename_i i
    have hc : con e i q = 0 := by unfold con; rw [if_neg (by omega), if_neg (by omega)]
    have hb : (G e i).beh q = 0 := by
      rw [G_eq he hi]
      by_cases k2 : (e.getD i default).kind = 2
      · rw [if_pos k2]
      rw [if_neg k2]
      by_cases k3 : (e.getD i default).kind = 3
      · rw [if_pos k3]
      rw [if_neg k3, if_neg (by omega), if_neg (by omega), if_neg (by omega)]; rfl
    rw [hb]
    constructor
    · intro h; simp at h
    · rintro ⟨j, h1, h2, h3⟩
      obtain rfl : j = i := by omega
      rw [hc] at h3; simp at h3
  | star hi hk h0 ha h ih =>
    rename_i i s
    have b1 := h.bnd
    have ea : (e.getD i default).a.toNat = i - 1 := by omega
    have hg : (G e i).beh q = if (G e (i - 1)).last.testBit q = true then (G e (i - 1)).beh q ||| (G e (i - 1)).first else (G e (i - 1)).beh q := by
      rw [G_eq he hi, if_neg (by omega), if_neg (by omega), if_pos hk, ea]; rfl
    have hc : con e i q = if (G e (i - 1)).last.testBit q = true then (G e (i - 1)).first else 0 := by unfold con; rw [if_pos hk, ea]
    have hb : ((G e i).beh q).testBit r = true ↔ ((G e (i - 1)).beh q).testBit r = true ∨ (con e i q).testBit r = true := by
      rw [hg, hc]
      split
      · rw [Nat.testBit_or, Bool.or_eq_true]
      · simp
    rw [hb, ih]
    constructor
    · rintro (⟨j, h1, h2, h3⟩ | h3)
      · exact ⟨j, by omega, by omega, h3⟩
      · exact ⟨i, by omega, by omega, h3⟩
    · rintro ⟨j, h1, h2, h3⟩
      by_cases d : j = i
      · subst d; exact .inr h3
      · exact .inl ⟨j, by omega, by omega, h3⟩
  | two hi hk h0 hb ha h k ih1 ih2 =>
    rename_i i s t
    have b1 := h.bnd
    have b2 := k.bnd
    have ea : (e.getD i default).a.toNat = i - 1 - t := by omega
    have eb : (e.getD i default).b.toNat = i - 1 := by omega
    have hB : ((G e i).beh q).testBit r = true ↔ ((G e (i - 1 - t)).beh q).testBit r = true ∨ ((G e (i - 1)).beh q).testBit r = true ∨ (con e i q).testBit r = true := by
      rcases hk with hk | hk
      · have hg : (G e i).beh q = if (G e (i - 1 - t)).last.testBit q = true then ((G e (i - 1 - t)).beh q ||| (G e (i - 1)).beh q) ||| (G e (i - 1)).first else (G e (i - 1 - t)).beh q ||| (G e (i - 1)).beh q := by
          rw [G_eq he hi, if_neg (by omega), if_neg (by omega), if_neg (by omega), if_pos hk, ea, eb]; rfl
        have hc : con e i q = if (G e (i - 1 - t)).last.testBit q = true then (G e (i - 1)).first else 0 := by unfold con; rw [if_neg (by omega), if_pos hk, ea, eb]
        rw [hg, hc]
        split
        · rw [Nat.testBit_or, Nat.testBit_or, Bool.or_eq_true, Bool.or_eq_true, or_assoc]
        · rw [Nat.testBit_or, Bool.or_eq_true]; simp
      · have hg : (G e i).beh q = (G e (i - 1 - t)).beh q ||| (G e (i - 1)).beh q := by
          rw [G_eq he hi, if_neg (by omega), if_neg (by omega), if_neg (by omega), if_neg (by omega), if_pos hk, ea, eb]; rfl
        have hc : con e i q = 0 := by unfold con; rw [if_neg (by omega), if_neg (by omega)]
        rw [hg, hc, Nat.testBit_or, Bool.or_eq_true]; simp
    rw [hB, ih1, ih2]
    constructor
    · rintro (⟨j, h1, h2, h3⟩ | ⟨j, h1, h2, h3⟩ | h3)
      · exact ⟨j, by omega, by omega, h3⟩
      · exact ⟨j, by omega, by omega, h3⟩
      · exact ⟨i, by omega, by omega, h3⟩
    · rintro ⟨j, h1, h2, h3⟩
      by_cases d : j = i
      · subst d; exact .inr (.inr h3)
      · by_cases d2 : i ≤ j + t
        · exact .inr (.inl ⟨j, by omega, by omega, h3⟩)
        · exact .inl ⟨j, by omega, by omega, h3⟩

theorem nullG_eq {e : List TNode} (he : Nodes reP e) : ∀ (i K : Nat), i < e.length → i < K → spec_l11Null K e (i : Int) = some (G e i).null := by
  intro i
  induction i using Nat.strongRecOn with
  | _ i ih =>
    intro K hi hK
    obtain ⟨K, rfl⟩ : ∃ k, K = k + 1 := ⟨K - 1, by omega⟩
    have hk := reKinds (he.2.2 i hi)
    rw [G_eq he hi]
    show spec_l11Null.body (spec_l11Null K) e (i : Int) = _
    unfold spec_l11Null.body spec_l11Null.k0
    rw [ix_nat hi, Option.bind_some]
    generalize e.getD i default = n at hk
    have ra : ∀ z : Int, 0 ≤ z → z < i → spec_l11Null K e z = some (G e z.toNat).null := fun z h0 h1 => by
      have := ih z.toNat (by omega) K (by omega) (by omega)
      rw [show ((z.toNat : Nat) : Int) = z by omega] at this; exact this
    by_cases k2 : n.kind = 2
    · simp [k2]
    simp only [if_neg k2, decide_eq_true_eq]
    by_cases k3 : n.kind = 3
    · simp [k3]
    simp only [if_neg k3]
    by_cases k4 : n.kind = 4
    · simp only [if_pos k4]; rfl
    simp only [if_neg k4]
    by_cases k5 : n.kind = 5
    · simp only [if_pos k5]
      rw [ra n.a (by omega) (by omega), Option.bind_some]
      cases hb : (G e n.a.toNat).null with
      | true => rw [whenO_t, ra n.b (by omega) (by omega), Option.bind_some]; unfold catN folN; dsimp only; rw [hb]
      | false => rw [whenO_f, Option.bind_some]; unfold catN folN; dsimp only; rw [hb]; rfl
    simp only [if_neg k5]
    by_cases k6 : n.kind = 6
    · simp only [if_pos k6]
      rw [ra n.a (by omega) (by omega), Option.bind_some]
      cases hb : (G e n.a.toNat).null with
      | true => rw [Bool.not_true, whenO_f, Option.bind_some]; unfold orN; dsimp only; rw [hb]; rfl
      | false => rw [Bool.not_false, whenO_t, ra n.b (by omega) (by omega), Option.bind_some]; unfold orN; dsimp only; rw [hb]
    simp only [if_neg k6]; rfl
/-- The numbers of the letters. -/
def numsN (e : List TNode) (i : Nat) : List Int := (List.range i).map fun j => ((ltN e j + 1 : Nat) : Int)
theorem numsN_ix {e : List TNode} {i j : Nat} (h : j < i) : ix (numsN e i) (j : Int) = some ((ltN e j + 1 : Nat) : Int) := by
  unfold numsN
  rw [ix_nat (by simpa using h)]
  simp [List.getD_eq_getElem?_getD, h]
theorem edge_eq {e : List TNode} (he : Nodes reP e) (hL : ltN e e.length ≤ 29) : ∀ (i K : Nat), i < e.length → i < K → ∀ b : Bool, spec_l11Edge K e (i : Int) (numsN e e.length) b = some ((if b = true then (G e i).first else (G e i).last : Nat) : Int) := by
  intro i
  induction i using Nat.strongRecOn with
  | _ i ih =>
    intro K hi hK b
    obtain ⟨K, rfl⟩ : ∃ k, K = k + 1 := ⟨K - 1, by omega⟩
    have hk := reKinds (he.2.2 i hi)
    have hlt := ltN_mono (e := e) (Nat.le_of_lt hi)
    have hgb : ∀ z : Int, 0 ≤ z → z < i → GB 29 (G e z.toNat) := fun z h0 h1 => (G_ok he z.toNat (by omega)).mono (Nat.le_trans (ltN_mono (by omega)) hL)
    have ra : ∀ z : Int, 0 ≤ z → z < i → ∀ b : Bool, spec_l11Edge K e z (numsN e e.length) b = some ((if b = true then (G e z.toNat).first else (G e z.toNat).last : Nat) : Int) := fun z h0 h1 b => by
      have := ih z.toNat (by omega) K (by omega) (by omega) b
      rw [show ((z.toNat : Nat) : Int) = z by omega] at this; exact this
    have rn : ∀ z : Int, 0 ≤ z → z < i → spec_l11Null K e z = some (G e z.toNat).null := fun z h0 h1 => by
      have := nullG_eq he z.toNat K (by omega) (by omega)
      rw [show ((z.toNat : Nat) : Int) = z by omega] at this; exact this
    have orI : ∀ x y : Nat, x < 2 ^ 30 → y < 2 ^ 30 → bOr .i64 (x : Int) (y : Int) = ((x ||| y : Nat) : Int) := fun x y hx hy => by
      have : (2 : Nat) ^ 30 = 1073741824 := rfl
      exact bOr_i (by omega) (by omega)
    rw [G_eq he hi]
    show spec_l11Edge.body K (spec_l11Edge K) e (i : Int) (numsN e e.length) b = _
    unfold spec_l11Edge.body
    rw [ix_nat hi, Option.bind_some]
    have hnum := numsN_ix (e := e) hi
    have hbit := l1Bit_eq (x := ((ltN e i + 1 : Nat) : Int)) (by omega)
    rw [Int.toNat_natCast] at hbit
    generalize e.getD i default = n at hk
    unfold spec_l11Edge.k0
    by_cases k2 : n.kind = 2
    · cases b <;> simp [k2]
    rw [if_neg k2]
    by_cases k3 : n.kind = 3
    · rw [if_pos k3, if_pos k3, if_pos k3, hnum, Option.bind_some, hbit, Option.bind_some]
      cases b <;> rfl
    rw [if_neg k3, if_neg k3, if_neg k3]
    by_cases k4 : n.kind = 4
    · rw [if_pos k4, if_pos k4, if_pos k4, ra n.a (by omega) (by omega), Option.bind_some]
      cases b <;> rfl
    rw [if_neg k4, if_neg k4, if_neg k4]
    by_cases k6 : n.kind = 6
    · have ga := hgb n.a (by omega) (by omega)
      have gb := hgb n.b (by omega) (by omega)
      rw [if_pos k6, if_pos k6, if_neg (by omega : ¬ n.kind = 5), if_pos k6, ra n.a (by omega) (by omega), Option.bind_some, ra n.b (by omega) (by omega), Option.bind_some]
      cases b
      · simp only [Bool.false_eq_true, if_false, Bool.not_false, if_true]
        rw [orI _ _ ga.l gb.l]; rfl
      · simp only [if_true, Bool.not_true, Bool.false_eq_true, if_false]
        rw [orI _ _ ga.f gb.f]; rfl
    rw [if_neg k6, if_neg k6, if_neg k6]
    by_cases k5 : n.kind = 5
    · have ga := hgb n.a (by omega) (by omega)
      have gb := hgb n.b (by omega) (by omega)
      rw [if_pos k5, if_pos k5, if_pos k5, ra n.a (by omega) (by omega), ra n.b (by omega) (by omega), rn n.a (by omega) (by omega), rn n.b (by omega) (by omega)]
      unfold catN folN
      simp only [Option.bind_some]
      cases b
      · simp only [Bool.false_eq_true, if_false, Bool.not_false, if_true]
        split
        · rw [orI _ _ gb.l ga.l]
        · rfl
      · simp only [if_true, Bool.not_true, Bool.false_eq_true, if_false]
        split
        · rw [orI _ _ ga.f gb.f]
        · rfl
    rw [if_neg k5, if_neg k5, if_neg k5]
    cases b <;> rfl
end Go.Proofs.Ythdoebgikbfndaa
end

/- Sorting comes to the one row in strict order that holds the same. -/
section
namespace Go.Proofs.Ythdoebgikbfndaa
open Go Go.RowKit E
set_option linter.unusedVariables false

/-- What is in strict order and holds the same is what sorting comes to. -/
theorem sortBy_eq {α : Type} [Inhabited α] {g : α → α → Option Int} {lt : α → α → Bool} (hg : ∀ a b, ∃ x, g a b = some x ∧ (x < 0 ↔ lt a b = true))
    (irr : ∀ a, lt a a = false) (tr : ∀ a b c, lt a b = true → lt b c = true → lt a c = true) (nt : ∀ a b c, lt a b = false → lt b c = false → lt a c = false)
    {l s : List α} (hs : s.Pairwise fun a b => lt a b = true) (hp : s.Perm l) (hl : l.length < 4611686018427387904) : sortBy l g = some s := by
  have hlt : ∀ a b, ltG g a b = lt a b := fun a b => by
    obtain ⟨x, h1, h2⟩ := hg a b
    unfold ltG
    rw [h1, Bool.eq_iff_iff, decide_eq_true_eq]
    exact h2
  have e : ltG g = lt := funext fun a => funext fun b => hlt a b
  obtain ⟨r, hr⟩ := sortBy_some (l := l) (g := g) (fun a b h => by obtain ⟨x, h1, _⟩ := hg a b; rw [h1] at h; cases h) (by rw [e]; exact ⟨irr, tr, nt⟩) hl
  obtain ⟨h1, h2⟩ := sortBy_spec hr
  have hrs : r = s := by
    refine List.Perm.eq_of_pairwise (le := fun a b => lt b a = false) ?_ ?_ ?_ (h1.trans hp.symm)
    · intro a b ha hb hab hba
      have ha' : a ∈ s := hp.mem_iff.mpr (h1.mem_iff.mp ha)
      have key : ∀ {t : List α}, t.Pairwise (fun a b => lt a b = true) → a ∈ t → b ∈ t → a = b := by
        intro t ht
        induction ht with
        | nil => intro h; cases h
        | cons hx _ ih =>
          intro m1 m2
          rcases List.mem_cons.mp m1 with e1 | k1
          · rcases List.mem_cons.mp m2 with e2 | k2
            · rw [e1, e2]
            · rw [e1, hx b k2] at hba; cases hba
          · rcases List.mem_cons.mp m2 with e2 | k2
            · rw [e2, hx a k1] at hab; cases hab
            · exact ih k1 k2
      exact key hs ha' hb
    · rw [List.pairwise_iff_getElem]
      intro i j hi hj hij
      rw [← hlt]
      exact h2 i j hi hj hij
    · refine hs.imp fun {a b} h => ?_
      cases h' : lt b a with
      | false => rfl
      | true => rw [← irr a, tr a b a h h']
  rw [hr, hrs]
end Go.Proofs.Ythdoebgikbfndaa
end

/- Numbers compared. -/
section
namespace Go.Proofs.Ythdoebgikbfndaa
open Go Go.RowKit E
set_option linter.unusedVariables false

theorem cmpInt_eq (x y : Int) : cmp_Compare_int x y = if x < y then -1 else if x > y then 1 else 0 := by
  unfold cmp_Compare_int cmp_isNaN_int
  rw [if_neg (by simp), if_neg (by simp)]
theorem cmpOr_eq (x y z : Int) : cmp_Or_int [x, y, z] = some (if x ≠ 0 then x else if y ≠ 0 then y else z) := by
  unfold cmp_Or_int
  have i0 : ix [x, y, z] (0 : Int) = some x := rfl
  have i1 : ix [x, y, z] (1 : Int) = some y := rfl
  have i2 : ix [x, y, z] (2 : Int) = some z := rfl
  have w0 : W (0 + 1) = 1 := by decide
  have w1 : W (1 + 1) = 2 := by decide
  have w2 : W (2 + 1) = 3 := by decide
  by_cases hx : x ≠ 0
  · rw [loop_end (r := .inr x) (by unfold cmp_Or_int.b0; rw [if_pos (by simp), i0, Option.bind_some, if_pos hx]), if_pos hx]; rfl
  · rw [loop_go (s' := 1) (by unfold cmp_Or_int.b0; rw [if_pos (by simp), i0, Option.bind_some, if_neg hx, w0]), if_neg hx]
    by_cases hy : y ≠ 0
    · rw [loop_end (r := .inr y) (by unfold cmp_Or_int.b0; rw [if_pos (by simp), i1, Option.bind_some, if_pos hy]), if_pos hy]; rfl
    · rw [loop_go (s' := 2) (by unfold cmp_Or_int.b0; rw [if_pos (by simp), i1, Option.bind_some, if_neg hy, w1]), if_neg hy]
      by_cases hz : z ≠ 0
      · rw [loop_end (r := .inr z) (by unfold cmp_Or_int.b0; rw [if_pos (by simp), i2, Option.bind_some, if_pos hz])]; rfl
      · rw [loop_go (s' := 3) (by unfold cmp_Or_int.b0; rw [if_pos (by simp), i2, Option.bind_some, if_neg hz, w2]), loop_end (r := .inl ()) (by unfold cmp_Or_int.b0; rw [if_neg (by simp)])]
        have : z = 0 := by omega
        rw [this]; rfl
end Go.Proofs.Ythdoebgikbfndaa
end

/- Sets of states, edges in order, numbers compared. -/
section
namespace Go.Proofs.Ythdoebgikbfndaa
open Go Go.RowKit E
set_option linter.unusedVariables false

theorem setIn_eq (x : Int) {n : Nat} (h : n ≤ 31) : spec_SetIn x (W (shl .i64 1 (n : Int) - 1)) = decide (0 ≤ x ∧ x < ((2 ^ n : Nat) : Int)) := by
  have hp := pow31 h
  rw [shl1_i (by omega)]
  have e : W (((2 ^ n : Nat) : Int) - 1) = ((2 ^ n - 1 : Nat) : Int) := by
    generalize 2 ^ n = y at hp ⊢
    rw [W, W_eq (by omega) (by omega)]; omega
  rw [e]
  unfold spec_SetIn spec_SetOk
  rw [l1Rg, l1Rg, bnd_eq, bnd_eq]
  by_cases h0 : 0 ≤ x ∧ x ≤ 2147483647
  · obtain ⟨y, rfl⟩ : ∃ y : Nat, x = y := ⟨x.toNat, by omega⟩
    rw [bAnd_i (by omega) (by omega), Nat.and_two_pow_sub_one_eq_mod]
    rw [decide_eq_true h0, decide_eq_true (by omega), Bool.and_self, Bool.true_and]
    rw [decide_eq_decide]
    constructor
    · intro g
      have g : y % 2 ^ n = y := by omega
      have := (Nat.mod_eq_iff_lt (by omega)).mp g
      omega
    · rintro ⟨_, g⟩
      rw [Nat.mod_eq_of_lt (by omega)]
  · rw [decide_eq_false h0, Bool.false_and, Bool.false_and]
    symm; rw [decide_eq_false_iff_not]; omega

/-- Edges in order. -/
def edgeLt (a b : TEdge) : Bool := decide (a.from_ < b.from_ ∨ (a.from_ = b.from_ ∧ (a.letter < b.letter ∨ (a.letter = b.letter ∧ a.to_ < b.to_))))
theorem l4Less_eq (a b : TEdge) : spec_l4Less a b = edgeLt a b := by
  unfold spec_l4Less edgeLt
  split
  · rw [decide_eq_decide]; omega
  · split
    · rw [decide_eq_decide]; omega
    · rw [decide_eq_decide]; omega
end Go.Proofs.Ythdoebgikbfndaa
end

/- Edges sorted. -/
section
namespace Go.Proofs.Ythdoebgikbfndaa
open Go Go.RowKit E
set_option linter.unusedVariables false

theorem cmpE_lt (a b : TEdge) : ∃ x, impl_compareEdges a b = some x ∧ (x < 0 ↔ edgeLt a b = true) := by
  unfold impl_compareEdges
  rw [cmpOr_eq, Option.bind_some]
  refine ⟨_, rfl, ?_⟩
  rw [cmpInt_eq, cmpInt_eq, cmpInt_eq]
  unfold edgeLt
  rw [decide_eq_true_eq]
  repeat' split
  all_goals omega
theorem edgeLt_irrefl (a : TEdge) : edgeLt a a = false := by unfold edgeLt; rw [decide_eq_false_iff_not]; omega
theorem sortE_eq {l s : List TEdge} (hs : s.Pairwise fun a b => edgeLt a b = true) (hp : s.Perm l) (hl : l.length < 4611686018427387904) : slices_SortFunc_TEdge l impl_compareEdges = some s := by
  unfold slices_SortFunc_TEdge
  refine sortBy_eq cmpE_lt edgeLt_irrefl (fun a b c h1 h2 => ?_) (fun a b c h1 h2 => ?_) hs hp hl
  · unfold edgeLt at *; rw [decide_eq_true_eq] at *; omega
  · unfold edgeLt at *; rw [decide_eq_false_iff_not] at *; omega
end Go.Proofs.Ythdoebgikbfndaa
end

/- The automaton of a regex: its edges, in two orders. -/
section
namespace Go.Proofs.Ythdoebgikbfndaa
open Go Go.RowKit E
set_option linter.unusedVariables false

/-- Which letter a number stands for; an edge. -/
def ed (e : List TNode) (q r : Nat) : TEdge := ⟨(q : Int), (letsN e).getD (r - 1) 0, (r : Int), false⟩
/-- What may come behind a letter; what may come first, behind 0. -/
def flw (e : List TNode) (q : Nat) : Nat := if q = 0 then (G e (e.length - 1)).first else (G e (e.length - 1)).beh q
def rowQ (e : List TNode) (f : Nat) (q k : Nat) : List TEdge := ((List.range k).filter fun r => f.testBit (r + 1)).map fun r => ed e q (r + 1)
def edgesS (e : List TNode) (n k : Nat) : List TEdge := (List.range k).flatMap fun q => rowQ e (flw e q) q n
def colT (e : List TNode) (t k : Nat) : List TEdge := ((List.range k).filter fun f => (flw e (f + 1)).testBit (t + 1)).map fun f => ed e (f + 1) (t + 1)
def colI (e : List TNode) (n t : Nat) : List TEdge := (if (flw e 0).testBit (t + 1) = true then [ed e 0 (t + 1)] else []) ++ colT e t n
def edgesI (e : List TNode) (n k : Nat) : List TEdge := (List.range k).flatMap fun t => colI e n t
theorem rowQ_succ (e : List TNode) (f q k : Nat) : rowQ e f q (k + 1) = if f.testBit (k + 1) = true then rowQ e f q k ++ [ed e q (k + 1)] else rowQ e f q k := by
  unfold rowQ
  rw [List.range_succ, List.filter_append, List.map_append, flt1]
  split <;> simp
theorem colT_succ (e : List TNode) (t k : Nat) : colT e t (k + 1) = if (flw e (k + 1)).testBit (t + 1) = true then colT e t k ++ [ed e (k + 1) (t + 1)] else colT e t k := by
  unfold colT
  rw [List.range_succ, List.filter_append, List.map_append, flt1]
  split <;> simp
theorem edgesS_succ (e : List TNode) (n k : Nat) : edgesS e n (k + 1) = edgesS e n k ++ rowQ e (flw e k) k n := by
  unfold edgesS; rw [List.range_succ, List.flatMap_append]; simp
theorem edgesI_succ (e : List TNode) (n k : Nat) : edgesI e n (k + 1) = edgesI e n k ++ colI e n k := by
  unfold edgesI; rw [List.range_succ, List.flatMap_append]; simp
theorem rowQ_len (e : List TNode) (f q k : Nat) : (rowQ e f q k).length ≤ k := by
  unfold rowQ; rw [List.length_map]; exact Nat.le_trans (List.length_filter_le _ _) (by simp)
theorem colT_len (e : List TNode) (t k : Nat) : (colT e t k).length ≤ k := by
  unfold colT; rw [List.length_map]; exact Nat.le_trans (List.length_filter_le _ _) (by simp)
theorem colI_len (e : List TNode) (n t : Nat) : (colI e n t).length ≤ n + 1 := by
  have := colT_len e t n
  unfold colI; rw [List.length_append]
  split <;> simp <;> omega
theorem edgesS_len (e : List TNode) (n : Nat) : ∀ k, (edgesS e n k).length ≤ k * n
  | 0 => by simp [edgesS]
  | k + 1 => by
    have := edgesS_len e n k
    have := rowQ_len e (flw e k) k n
    rw [edgesS_succ, List.length_append, Nat.succ_mul]; omega
theorem edgesI_len (e : List TNode) (n : Nat) : ∀ k, (edgesI e n k).length ≤ k * (n + 1)
  | 0 => by simp [edgesI]
  | k + 1 => by
    have := edgesI_len e n k
    have := colI_len e n k
    rw [edgesI_succ, List.length_append, Nat.succ_mul]; omega
theorem mem_S {e : List TNode} {n k : Nat} {x : TEdge} : x ∈ edgesS e n k ↔ ∃ q r, q < k ∧ r < n ∧ (flw e q).testBit (r + 1) = true ∧ x = ed e q (r + 1) := by
  unfold edgesS rowQ
  rw [List.mem_flatMap]
  constructor
  · rintro ⟨q, hq, h⟩
    obtain ⟨r, hr, rfl⟩ := List.mem_map.mp h
    rw [List.mem_filter, List.mem_range] at hr
    exact ⟨q, r, List.mem_range.mp hq, hr.1, hr.2, rfl⟩
  · rintro ⟨q, r, hq, hr, hb, rfl⟩
    exact ⟨q, List.mem_range.mpr hq, List.mem_map.mpr ⟨r, List.mem_filter.mpr ⟨List.mem_range.mpr hr, hb⟩, rfl⟩⟩
theorem mem_I {e : List TNode} {n k : Nat} {x : TEdge} : x ∈ edgesI e n k ↔ ∃ q r, q < n + 1 ∧ r < k ∧ (flw e q).testBit (r + 1) = true ∧ x = ed e q (r + 1) := by
  unfold edgesI
  rw [List.mem_flatMap]
  constructor
  · rintro ⟨t, ht, h⟩
    unfold colI colT at h
    rcases List.mem_append.mp h with h | h
    · split at h
      · rename_i hb
        rw [List.mem_singleton] at h
        exact ⟨0, t, by omega, List.mem_range.mp ht, hb, h⟩
      · cases h
    · obtain ⟨f, hf, rfl⟩ := List.mem_map.mp h
      rw [List.mem_filter, List.mem_range] at hf
      exact ⟨f + 1, t, by omega, List.mem_range.mp ht, hf.2, rfl⟩
  · rintro ⟨q, r, hq, hr, hb, rfl⟩
    refine ⟨r, List.mem_range.mpr hr, ?_⟩
    unfold colI colT
    cases q with
    | zero => exact List.mem_append_left _ (by rw [if_pos hb]; simp)
    | succ q => exact List.mem_append_right _ (List.mem_map.mpr ⟨q, List.mem_filter.mpr ⟨List.mem_range.mpr (by omega), hb⟩, rfl⟩)
theorem ed_inj {e : List TNode} {q r q' r' : Nat} (h : (ed e q r).from_ = (ed e q' r').from_ ∧ (ed e q r).to_ = (ed e q' r').to_) : q = q' ∧ r = r' := by
  unfold ed at h
  simp only at h
  omega
theorem key_S (e : List TNode) (n k : Nat) : (edgesS e n k).Pairwise fun a b => ¬ (a.from_ = b.from_ ∧ a.letter = b.letter ∧ a.to_ = b.to_) := by
  unfold edgesS
  rw [List.pairwise_flatMap]
  refine ⟨fun q hq => ?_, ?_⟩
  · unfold rowQ
    rw [List.pairwise_map]
    refine (List.Pairwise.filter _ List.pairwise_lt_range).imp fun {i j} hij h => ?_
    have := (ed_inj ⟨h.1, h.2.2⟩).2
    omega
  · refine List.pairwise_lt_range.imp fun {i j} hij => ?_
    intro x hx y hy h
    unfold rowQ at hx hy
    obtain ⟨a, _, rfl⟩ := List.mem_map.mp hx
    obtain ⟨b, _, rfl⟩ := List.mem_map.mp hy
    have := (ed_inj ⟨h.1, h.2.2⟩).1
    omega
theorem nodup_I (e : List TNode) (n k : Nat) : (edgesI e n k).Nodup := by
  unfold edgesI List.Nodup
  rw [List.pairwise_flatMap]
  refine ⟨fun t ht => ?_, ?_⟩
  · unfold colI colT
    rw [List.pairwise_append]
    refine ⟨by split <;> simp, ?_, fun x hx y hy h => ?_⟩
    · rw [List.pairwise_map]
      refine (List.Pairwise.filter _ List.pairwise_lt_range).imp fun {i j} hij h => ?_
      have := (ed_inj (e := e) ⟨congrArg TEdge.from_ h, congrArg TEdge.to_ h⟩).1
      omega
    · split at hx
      · rw [List.mem_singleton] at hx
        obtain ⟨f, _, rfl⟩ := List.mem_map.mp hy
        rw [hx] at h
        have := (ed_inj (e := e) ⟨congrArg TEdge.from_ h, congrArg TEdge.to_ h⟩).1
        omega
      · cases hx
  · refine List.pairwise_lt_range.imp fun {i j} hij => ?_
    intro x hx y hy h
    have hto : ∀ {t : Nat} {x : TEdge}, x ∈ colI e n t → x.to_ = ((t + 1 : Nat) : Int) := fun {t x} hx => by
      unfold colI colT at hx
      rcases List.mem_append.mp hx with hx | hx
      · split at hx
        · rw [List.mem_singleton] at hx; rw [hx]; rfl
        · cases hx
      · obtain ⟨f, _, rfl⟩ := List.mem_map.mp hx; rfl
    have h1 := hto hx
    have h2 := hto hy
    rw [h] at h1
    omega
theorem edges_perm (e : List TNode) (n : Nat) : (edgesS e n (n + 1)).Perm (edgesI e n n) := by
  rw [List.perm_ext_iff_of_nodup]
  · intro x; rw [mem_S, mem_I]
  · exact (key_S e n (n + 1)).imp fun {a b} h => by rintro rfl; exact h ⟨rfl, rfl, rfl⟩
  · exact nodup_I e n n
theorem lets_len (e : List TNode) : (letsN e).length = ltN e e.length := by unfold letsN ltN; simp
end Go.Proofs.Ythdoebgikbfndaa
end

/- Numbers made of three digits. -/
section
namespace Go.Proofs.Ythdoebgikbfndaa
open Go Go.RowKit E
set_option linter.unusedVariables false

theorem key_div {S L f l t : Nat} (hl : l < L) (ht : t < S) : ((f * L + l) * S + t) / S / L = f ∧ ((f * L + l) * S + t) / S % L = l ∧ ((f * L + l) * S + t) % S = t := by
  have hS : 0 < S := by omega
  have hL : 0 < L := by omega
  have e1 : ((f * L + l) * S + t) / S = f * L + l := by
    rw [Nat.add_comm, Nat.add_mul_div_right _ _ hS, Nat.div_eq_of_lt ht, Nat.zero_add]
  refine ⟨?_, ?_, ?_⟩
  · rw [e1, Nat.add_comm, Nat.add_mul_div_right _ _ hL, Nat.div_eq_of_lt hl, Nat.zero_add]
  · rw [e1, Nat.add_comm, Nat.add_mul_mod_self_right, Nat.mod_eq_of_lt hl]
  · rw [Nat.add_comm, Nat.add_mul_mod_self_right, Nat.mod_eq_of_lt ht]
theorem key_lt {S L f l t : Nat} (hf : f < S) (hl : l < L) (ht : t < S) : (f * L + l) * S + t < S * L * S := by
  have h1 : f * L + L ≤ S * L := by rw [← Nat.succ_mul]; exact Nat.mul_le_mul_right _ hf
  have h2 : (f * L + l) * S + S ≤ S * L * S := by rw [← Nat.succ_mul]; exact Nat.mul_le_mul_right _ (by omega)
  omega
theorem digit_lt {n q r q' r' : Nat} (hr : r < n) (hr' : r' < n) (h : q * n + r < q' * n + r') : q < q' ∨ q = q' ∧ r < r' := by
  rcases Nat.lt_trichotomy q q' with g | g | g
  · exact .inl g
  · subst g; exact .inr ⟨rfl, by omega⟩
  · have : (q' + 1) * n ≤ q * n := Nat.mul_le_mul_right _ g
    rw [Nat.succ_mul] at this
    omega
theorem qm {S x : Nat} (hS : 1 ≤ S ∧ S ≤ 31) (hx : x ≤ 1000000) : quo .i64 (x : Int) (S : Int) = ((x / S : Nat) : Int) ∧ Int.tmod (x : Int) (S : Int) = ((x % S : Nat) : Int) := by
  have h3 := Nat.div_le_self x S
  refine ⟨?_, rfl⟩
  unfold quo
  rw [show ((x : Int).tdiv (S : Int)) = ((x / S : Nat) : Int) from rfl]
  generalize x / S = d at h3 ⊢
  exact W_eq (by omega) (by omega)
end Go.Proofs.Ythdoebgikbfndaa
end

/- Loops over lists, told by what their states stand for. -/
section
namespace Go.Proofs.Ythdoebgikbfndaa
open Go Go.RowKit E
set_option linter.unusedVariables false

theorem fold_loopR {α σ τ ρ : Type} [Inhabited α] (r : τ → σ) (o : τ → ρ) (xs : List α) (f : τ → α → τ) (Inv : Nat → τ → Prop) {body : σ × Int → Option ((σ × Int) ⊕ ρ)} (go : ∀ (k : Nat) (st : τ), k < xs.length → Inv k st → body (r st, (k : Int)) = some (.inl (r (f st (xs.getD k default)), ((k + 1 : Nat) : Int))) ∧ Inv (k + 1) (f st (xs.getD k default)))
    (fin : ∀ st, Inv xs.length st → body (r st, (xs.length : Int)) = some (.inr (o st))) (st : τ) (h0 : Inv 0 st) : loop body (r st, 0) = some (o (xs.foldl f st)) ∧ Inv xs.length (xs.foldl f st) := by
  have key : ∀ post pre, xs = pre ++ post → ∀ st, Inv pre.length st → loop body (r st, (pre.length : Int)) = some (o (post.foldl f st)) ∧ Inv xs.length (post.foldl f st) := by
    intro post
    induction post with
    | nil => intro pre h st hi; simp at h; subst h; exact ⟨loop_end (fin st hi), hi⟩
    | cons a post ih =>
      intro pre h st hi
      have hk : pre.length < xs.length := by rw [h]; simp
      have ha : xs.getD pre.length default = a := by rw [h]; simp
      obtain ⟨g1, g2⟩ := go pre.length st hk hi
      rw [ha] at g1 g2
      have e : (((pre.length + 1 : Nat) : Int)) = ((pre ++ [a]).length : Int) := by simp
      rw [loop_go g1, e, List.foldl_cons]
      exact ih (pre ++ [a]) (by rw [h]; simp) _ (by simpa using g2)
  exact key xs [] rfl st h0
/-- A loop over the numbers below one. -/
theorem range_loopR {σ τ ρ : Type} (r : τ → σ) (o : τ → ρ) (n : Nat) (f : τ → Nat → τ) (Inv : Nat → τ → Prop) {body : σ × Int → Option ((σ × Int) ⊕ ρ)} (go : ∀ (k : Nat) (st : τ), k < n → Inv k st → body (r st, (k : Int)) = some (.inl (r (f st k), ((k + 1 : Nat) : Int))) ∧ Inv (k + 1) (f st k))
    (fin : ∀ st, Inv n st → body (r st, (n : Int)) = some (.inr (o st))) (st : τ) (h0 : Inv 0 st) : loop body (r st, 0) = some (o ((List.range n).foldl f st)) ∧ Inv n ((List.range n).foldl f st) := by
  have h := fold_loopR r o (List.range n) f Inv (body := body) (fun k st hk hi => by
    have hk' : k < n := by simpa using hk
    have e : (List.range n).getD k default = k := by simp [List.getD_eq_getElem?_getD, hk']
    rw [e]; exact go k st hk' hi) (fun st hi => by rw [List.length_range] at hi ⊢; exact fin st hi) st h0
  rw [List.length_range] at h
  exact h
/-- Members put into a set, where asked. -/
def setOf (c : Nat → Bool) (n : Nat) : Nat := (List.range n).foldl (fun s k => if c k = true then s ||| 2 ^ k else s) 0
theorem setOf_bit (c : Nat → Bool) (n : Nat) (i : Nat) : (setOf c n).testBit i = (decide (i < n) && c i) := by
  unfold setOf
  induction n with
  | zero => simp
  | succ n ih =>
    rw [List.range_succ, List.foldl_append, List.foldl_cons, List.foldl_nil]
    by_cases h : c n = true
    · rw [if_pos h, Nat.testBit_or, ih, Nat.testBit_two_pow]
      by_cases e : n = i
      · subst e; simp [h]
      · have : decide (i < n + 1) = decide (i < n) := by rw [decide_eq_decide]; omega
        simp [e, this]
    · rw [if_neg h, ih]
      by_cases e : i = n
      · subst e; simp [h]
      · have : decide (i < n + 1) = decide (i < n) := by rw [decide_eq_decide]; omega
        rw [this]
theorem setOf_lt (c : Nat → Bool) (n : Nat) : setOf c n < 2 ^ n := by
  refine Nat.lt_pow_two_of_testBit _ fun i hi => ?_
  rw [setOf_bit, decide_eq_false (by omega), Bool.false_and]
end Go.Proofs.Ythdoebgikbfndaa
end

/- The reference's making of automata of edges all unlike. -/
section
namespace Go.Proofs.Ythdoebgikbfndaa
open Go Go.RowKit E
set_option linter.unusedVariables false

def keyE (S L : Nat) (e : TEdge) : Nat := (e.from_.toNat * L + e.letter.toNat) * S + e.to_.toNat
structure EE (S L : Nat) (e : TEdge) : Prop where
  f : 0 ≤ e.from_ ∧ e.from_ < S
  l : 0 ≤ e.letter ∧ e.letter < L
  t : 0 ≤ e.to_ ∧ e.to_ < S
def mkE (e : TEdge) : Int := if e.good = true then 2 else 1
def decE (S L i : Nat) (m : Int) : TEdge := ⟨((i / S / L : Nat) : Int), ((i / S % L : Nat) : Int), ((i % S : Nat) : Int), decide (m = 2)⟩
theorem decE_lt {S L i j : Nat} (hS : 0 < S) (hL : 0 < L) (h : i < j) (m m' : Int) : edgeLt (decE S L i m) (decE S L j m') = true := by
  have d1 := Nat.div_add_mod i S
  have d2 := Nat.div_add_mod j S
  have d3 := Nat.div_add_mod (i / S) L
  have d4 := Nat.div_add_mod (j / S) L
  have r1 := Nat.mod_lt i hS
  have r2 := Nat.mod_lt j hS
  have r3 := Nat.mod_lt (i / S) hL
  have r4 := Nat.mod_lt (j / S) hL
  rw [Nat.mul_comm] at d1 d2 d3 d4
  have k1 := digit_lt r1 r2 (by rw [d1, d2]; exact h)
  unfold edgeLt decE
  rw [decide_eq_true_eq]
  rcases k1 with k1 | ⟨k1, k2⟩
  · have k3 := digit_lt r3 r4 (by rw [d3, d4]; exact k1)
    rcases k3 with k3 | ⟨k3, k4⟩
    · left; simp only; omega
    · right; simp only; exact ⟨by omega, by omega⟩
  · right
    simp only
    rw [k1]
    exact ⟨rfl, .inr ⟨rfl, by omega⟩⟩
theorem decE_key {S L : Nat} {e : TEdge} (h : EE S L e) : decE S L (keyE S L e) (mkE e) = e := by
  obtain ⟨h1, h2, h3⟩ := key_div (S := S) (L := L) (f := e.from_.toNat) (l := e.letter.toNat) (t := e.to_.toNat) (by have := h.l; omega) (by have := h.t; omega)
  unfold decE keyE
  rw [h1, h2, h3]
  obtain ⟨f, l, t, m⟩ := e
  have a := h.f; have b := h.l; have c := h.t
  have hm : decide (mkE ⟨f, l, t, m⟩ = 2) = m := by unfold mkE; cases m <;> rfl
  rw [hm]
  simp only at a b c ⊢
  congr 1 <;> omega
theorem keyE_lt {S L : Nat} {e : TEdge} (h : EE S L e) : keyE S L e < S * L * S := key_lt (by have := h.f; omega) (by have := h.l; omega) (by have := h.t; omega)
theorem keyE_W {S L : Nat} (hS : S ≤ 31) (hL : L ≤ 8) {e : TEdge} (h : EE S L e) : W (W (W (W (e.from_ * (L : Int)) + e.letter) * (S : Int)) + e.to_) = ((keyE S L e : Nat) : Int) := by
  obtain ⟨f, l, t, m⟩ := e
  have a := h.f; have b := h.l; have c := h.t
  simp only at a b c ⊢
  unfold keyE
  simp only
  obtain ⟨f, rfl⟩ : ∃ x : Nat, f = x := ⟨f.toNat, by omega⟩
  obtain ⟨l, rfl⟩ : ∃ x : Nat, l = x := ⟨l.toNat, by omega⟩
  obtain ⟨t, rfl⟩ : ∃ x : Nat, t = x := ⟨t.toNat, by omega⟩
  simp only [Int.toNat_natCast]
  have b1 : f * L ≤ 31 * 8 := Nat.mul_le_mul (by omega) hL
  have e1 : (f : Int) * (L : Int) = ((f * L : Nat) : Int) := by push_cast; rfl
  have wn : ∀ x : Nat, x ≤ 1000000 → W (x : Int) = (x : Int) := fun x h => W_eq (by omega) (by omega)
  have e2 : ((f * L : Nat) : Int) + (l : Int) = ((f * L + l : Nat) : Int) := by omega
  have b2 : (f * L + l) * S ≤ 300 * 31 := Nat.mul_le_mul (by omega) hS
  have e3 : ((f * L + l : Nat) : Int) * (S : Int) = (((f * L + l) * S : Nat) : Int) := by push_cast; rfl
  have e4 : (((f * L + l) * S : Nat) : Int) + (t : Int) = (((f * L + l) * S + t : Nat) : Int) := by omega
  rw [e1, wn _ (by omega), e2, wn _ (by omega), e3, wn _ (by omega), e4, wn _ (by omega)]
theorem keyE_ne {S L : Nat} {a b : TEdge} (ha : EE S L a) (hb : EE S L b) (h : ¬ (a.from_ = b.from_ ∧ a.letter = b.letter ∧ a.to_ = b.to_)) : keyE S L a ≠ keyE S L b := fun hk => by
  have h1 := decE_key ha
  have h2 := decE_key hb
  rw [hk] at h1
  have a1 : a.from_ = b.from_ := by
    have q1 : (decE S L (keyE S L b) (mkE a)).from_ = a.from_ := congrArg TEdge.from_ h1
    have q2 : (decE S L (keyE S L b) (mkE b)).from_ = b.from_ := congrArg TEdge.from_ h2
    exact q1.symm.trans q2
  have a2 : a.letter = b.letter := by
    have q1 : (decE S L (keyE S L b) (mkE a)).letter = a.letter := congrArg TEdge.letter h1
    have q2 : (decE S L (keyE S L b) (mkE b)).letter = b.letter := congrArg TEdge.letter h2
    exact q1.symm.trans q2
  have a3 : a.to_ = b.to_ := by
    have q1 : (decE S L (keyE S L b) (mkE a)).to_ = a.to_ := congrArg TEdge.to_ h1
    have q2 : (decE S L (keyE S L b) (mkE b)).to_ = b.to_ := congrArg TEdge.to_ h2
    exact q1.symm.trans q2
  exact h ⟨a1, a2, a3⟩

/-- The table of edges. -/
noncomputable def putE (S L : Nat) (st : List Int) (e : TEdge) : List Int := st.set (keyE S L e) (spec_l1Max (st.getD (keyE S L e) 0) (mkE e))
theorem putE_len (S L : Nat) : ∀ (l : List TEdge) (st : List Int), (l.foldl (putE S L) st).length = st.length
  | [], _ => rfl
  | e :: l, st => by rw [List.foldl_cons, putE_len S L l]; unfold putE; simp
theorem putE_one {S L i : Nat} {e : TEdge} {st : List Int} (h : keyE S L e ≠ i) : (putE S L st e).getD i 0 = st.getD i 0 := by
  unfold putE
  simp only [List.getD_eq_getElem?_getD]
  rw [List.getElem?_set_ne h]
theorem putE_other {S L i : Nat} : ∀ (l : List TEdge) (st : List Int), (∀ e ∈ l, keyE S L e ≠ i) → (l.foldl (putE S L) st).getD i 0 = st.getD i 0
  | [], _, _ => rfl
  | e :: l, st, h => by
    rw [List.foldl_cons, putE_other l _ fun x hx => h x (List.mem_cons_of_mem _ hx)]
    exact putE_one (h e List.mem_cons_self)
theorem putE_mem {S L : Nat} : ∀ (l : List TEdge) (st : List Int), (l.Pairwise fun a b => keyE S L a ≠ keyE S L b) → (∀ e ∈ l, st.getD (keyE S L e) 0 = 0) → ∀ e ∈ l, keyE S L e < st.length → (l.foldl (putE S L) st).getD (keyE S L e) 0 = mkE e
  | x :: l, st, hp, hz, e, he, hk => by
    rw [List.foldl_cons]
    rw [List.pairwise_cons] at hp
    rcases List.mem_cons.mp he with rfl | he
    · rw [putE_other l _ fun y hy => (hp.1 y hy).symm]
      unfold putE
      rw [hz e List.mem_cons_self]
      have : spec_l1Max 0 (mkE e) = mkE e := by unfold spec_l1Max mkE; split <;> rfl
      rw [this]
      simp [List.getD_eq_getElem?_getD, hk]
    · exact putE_mem l _ hp.2 (fun y hy => by rw [putE_one (hp.1 y hy)]; exact hz y (List.mem_cons_of_mem _ hy)) e he (by unfold putE; simpa using hk)

/-- What is read off the table. -/
def outE (S L : Nat) (m : List Int) (n : Nat) : List TEdge := (List.range n).filterMap fun i => if m.getD i 0 > 0 then some (decE S L i (m.getD i 0)) else none
theorem outE_succ (S L : Nat) (m : List Int) (n : Nat) : outE S L m (n + 1) = outE S L m n ++ (if m.getD n 0 > 0 then [decE S L n (m.getD n 0)] else []) := by
  unfold outE
  rw [List.range_succ, List.filterMap_append]
  congr 1
  by_cases h : m.getD n 0 > 0
  · rw [if_pos h]; simp only [List.filterMap_cons, List.filterMap_nil]; rw [if_pos h]
  · rw [if_neg h]; simp only [List.filterMap_cons, List.filterMap_nil]; rw [if_neg h]
theorem outE_len (S L : Nat) (m : List Int) (n : Nat) : (outE S L m n).length ≤ n := by
  unfold outE
  refine Nat.le_trans (List.length_filterMap_le _ _) (by simp)
theorem outE_sorted {S L : Nat} (hS : 0 < S) (hL : 0 < L) (m : List Int) (n : Nat) : (outE S L m n).Pairwise fun a b => edgeLt a b = true := by
  unfold outE
  rw [List.pairwise_filterMap]
  refine List.pairwise_lt_range.imp fun {i j} hij => ?_
  intro a ha b hb
  split at ha
  · split at hb
    · cases ha; cases hb; exact decE_lt hS hL hij _ _
    · cases hb
  · cases ha

theorem autoMake_eq {S L : Nat} (bS : 1 ≤ S ∧ S ≤ 31) (bL : 1 ≤ L ∧ L ≤ 8) {st : Int} (hok : spec_AutoOk ⟨(L : Int), (S : Int), st, []⟩ = some true) {E : List TEdge} (hl : E.length ≤ 2000) (he : ∀ e ∈ E, EE S L e)
    (hk : E.Pairwise fun a b => keyE S L a ≠ keyE S L b) : ∃ s, spec_AutoMake (L : Int) (S : Int) st E = some (⟨(L : Int), (S : Int), st, s⟩, true) ∧ s.Perm E ∧ s.Pairwise fun a b => edgeLt a b = true := by
  have bSL : S * L ≤ 31 * 8 := Nat.mul_le_mul bS.2 bL.2
  have bN : S * L * S ≤ 248 * 31 := Nat.mul_le_mul bSL bS.2
  have w1 : W ((S : Int) * (L : Int)) = ((S * L : Nat) : Int) := by
    rw [show (S : Int) * (L : Int) = ((S * L : Nat) : Int) by push_cast; rfl, W, W_eq (by omega) (by omega)]
  have w2 : W (((S * L : Nat) : Int) * (S : Int)) = ((S * L * S : Nat) : Int) := by
    rw [show ((S * L : Nat) : Int) * (S : Int) = ((S * L * S : Nat) : Int) by push_cast; rfl, W, W_eq (by omega) (by omega)]
  have w5 : W ((S : Int) - 1) = (S : Int) - 1 := W_eq (by omega) (by omega)
  have w6 : W ((L : Int) - 1) = (L : Int) - 1 := W_eq (by omega) (by omega)
  generalize hN : S * L * S = N at *
  have hrep : ∀ i, (List.replicate N (0 : Int)).getD i 0 = 0 := fun i => by
    simp only [List.getD_eq_getElem?_getD, List.getElem?_replicate]
    split <;> rfl
  have hmem : ∀ i, (E.foldl (putE S L) (List.replicate N 0)).getD i 0 > 0 → ∃ e ∈ E, keyE S L e = i ∧ (E.foldl (putE S L) (List.replicate N 0)).getD i 0 = mkE e := fun i hi => by
    by_cases c : ∀ e ∈ E, keyE S L e ≠ i
    · rw [putE_other _ _ c, hrep] at hi; omega
    · obtain ⟨e, c⟩ := Classical.not_forall.mp c
      obtain ⟨c1, c2⟩ := Classical.not_imp.mp c
      have c2 := Classical.not_not.mp c2
      refine ⟨e, c1, c2, ?_⟩
      rw [← c2]
      exact putE_mem _ _ hk (fun y _ => hrep _) e c1 (by have := keyE_lt (he e c1); simp; omega)
  refine ⟨outE S L (E.foldl (putE S L) (List.replicate N 0)) N, ?_, ?_, outE_sorted (by omega) (by omega) _ _⟩
  · unfold spec_AutoMake
    rw [hok, Option.bind_some, bnd_eq, decide_eq_false (by omega), if_neg (by simp), w1, w2, mk_ok (by omega) (by omega), Option.bind_some, Int.toNat_natCast]
    have h1 := loop_up (body := fun s : Int × Int × Int × List TEdge × List Int × Int => spec_AutoMake.b1 E (S : Int) (L : Int) s.1 s.2.1 s.2.2.1 s.2.2.2.1 s.2.2.2.2.1 s.2.2.2.2.2) E.length (fun k => (0, 0, 0, [], (E.take k).foldl (putE S L) (List.replicate N 0), (k : Int)))
      (.inl (0, 0, 0, [], E.foldl (putE S L) (List.replicate N 0))) (fun k hk => by
      have hm := he _ (List.getElem_mem hk)
      have hd : E.getD k default = E[k] := by simp [List.getD_eq_getElem?_getD, hk]
      have ht : (E.take (k + 1)).foldl (putE S L) (List.replicate N 0) = putE S L ((E.take k).foldl (putE S L) (List.replicate N 0)) E[k] := by
        rw [List.take_succ_eq_append_getElem hk, List.foldl_append]; rfl
      have hlen : ((E.take k).foldl (putE S L) (List.replicate N 0)).length = N := by rw [putE_len]; simp
      rw [ht]
      generalize (E.take k).foldl (putE S L) (List.replicate N 0) = y at hlen ⊢
      have hkey := keyE_lt hm
      have hmf := hm.f; have hml := hm.l; have hmt := hm.t
      dsimp only
      unfold spec_AutoMake.b1
      rw [if_pos (by omega), ix_nat hk, Option.bind_some, hd]
      unfold spec_l4State
      rw [w5, w6, l1Rg, l1Rg, l1Rg, decide_eq_true (by omega), decide_eq_true (by omega), decide_eq_true (by omega), bnd_eq, bnd_eq, if_neg (by simp)]
      unfold spec_AutoMake.k2 putE mkE
      rw [keyE_W bS.2 bL.2 hm, ix_nat (by omega), Option.bind_some, Option.bind_some, ck_nat (by omega), Option.bind_some, Option.bind_some, WN (by omega)]
      have hdd : y.getD (keyE S L E[k]) default = y.getD (keyE S L E[k]) 0 := rfl
      rw [hdd]
      split <;> rfl) (by dsimp only; unfold spec_AutoMake.b1; rw [if_neg (by omega), List.take_length]) 0 (Nat.zero_le _)
    have h1' : loop (fun s : Int × Int × Int × List TEdge × List Int × Int => spec_AutoMake.b1 E (S : Int) (L : Int) s.1 s.2.1 s.2.2.1 s.2.2.2.1 s.2.2.2.2.1 s.2.2.2.2.2) (0, 0, 0, [], List.replicate N 0, 0) = _ := h1
    rw [h1', Option.bind_some]
    have hml : (E.foldl (putE S L) (List.replicate N 0)).length = N := by rw [putE_len]; simp
    clear h1 h1'
    generalize E.foldl (putE S L) (List.replicate N 0) = m at hml hmem ⊢
    show spec_AutoMake.k0 (S : Int) (L : Int) st 0 0 0 [] m = _
    unfold spec_AutoMake.k0
    have h2 := loop_up (body := fun s : Int × Int × Int × List TEdge × Int => spec_AutoMake.b0 m (S : Int) (L : Int) s.1 s.2.1 s.2.2.1 s.2.2.2.1 s.2.2.2.2) N (fun k => ((L : Int), (S : Int), st, outE S L m k, (k : Int))) ((L : Int), (S : Int), st, outE S L m N) (fun k hk => by
      dsimp only
      unfold spec_AutoMake.b0
      have hdf : m.getD k default = m.getD k 0 := rfl
      have hkm : k < m.length := by omega
      have q1 := qm (S := S) (x := k) bS (by omega)
      have q2 := qm (S := L) (x := k / S) (by omega) (by have := Nat.div_le_self k S; omega)
      rw [if_pos (by omega), ix_nat hkm, Option.bind_some, hdf, outE_succ]
      by_cases c : m.getD k 0 > 0
      · rw [if_pos c, if_pos c, decide_eq_true (by omega), decide_eq_true (by omega), chk_t]
        simp only [Option.bind_some]
        rw [q1.1, q2.1, q2.2, q1.2, app_small (by have := outE_len S L m k; simp; omega) (by omega), Option.bind_some, WN (by omega)]
        rfl
      · rw [if_neg c, if_neg c, List.append_nil, WN (by omega)]) (by
      dsimp only; unfold spec_AutoMake.b0; rw [if_neg (by omega)]) 0 (Nat.zero_le _)
    have h3 : loop (fun s : Int × Int × Int × List TEdge × Int => spec_AutoMake.b0 m (S : Int) (L : Int) s.1 s.2.1 s.2.2.1 s.2.2.2.1 s.2.2.2.2) ((L : Int), (S : Int), st, [], 0) = some ((L : Int), (S : Int), st, outE S L m N) := h2
    rw [h3]; rfl
  · rw [List.perm_ext_iff_of_nodup]
    · intro e
      unfold outE
      rw [List.mem_filterMap]
      constructor
      · rintro ⟨i, hi, h⟩
        split at h
        · rename_i c
          cases h
          obtain ⟨e, e1, e2, e3⟩ := hmem i c
          rw [e3, ← e2, decE_key (he e e1)]
          exact e1
        · cases h
      · intro h
        have h1 := keyE_lt (he e h)
        have h2 := putE_mem E (List.replicate N 0) hk (fun y _ => hrep _) e h (by simp; omega)
        refine ⟨keyE S L e, by simp; omega, ?_⟩
        rw [h2, if_pos (by unfold mkE; split <;> omega), decE_key (he e h)]
    · refine (outE_sorted (by omega) (by omega) _ _).imp fun {a b} h => ?_
      rintro rfl
      rw [edgeLt_irrefl] at h; cases h
    · exact hk.imp fun {a b} h => by rintro rfl; exact h rfl
end Go.Proofs.Ythdoebgikbfndaa
end

/- Automata: both sides' test that an automaton is right. -/
section
namespace Go.Proofs.Ythdoebgikbfndaa
open Go Go.RowKit E
set_option linter.unusedVariables false

theorem compareEdges_eq (a b : TEdge) : ∃ x, impl_compareEdges a b = some x ∧ decide (x ≥ 0) = !(edgeLt a b) := by
  unfold impl_compareEdges
  rw [cmpOr_eq, Option.bind_some]
  refine ⟨_, rfl, ?_⟩
  rw [cmpInt_eq, cmpInt_eq, cmpInt_eq]
  unfold edgeLt
  rw [Bool.eq_iff_iff, decide_eq_true_eq, Bool.not_eq_true', decide_eq_false_iff_not]
  repeat' split
  all_goals omega
/-- The k-th edge is right. -/
def edgeOk (a : TAuto) (k : Nat) : Bool :=
  decide (0 ≤ (a.edges.getD k default).from_ ∧ (a.edges.getD k default).from_ ≤ a.states - 1) && decide (0 ≤ (a.edges.getD k default).to_ ∧ (a.edges.getD k default).to_ ≤ a.states - 1) && decide (0 ≤ (a.edges.getD k default).letter ∧ (a.edges.getD k default).letter ≤ a.letters - 1) && (decide (k = 0) || edgeLt (a.edges.getD (k - 1) default) (a.edges.getD k default))
def headOk (a : TAuto) : Bool := decide (1 ≤ a.letters ∧ a.letters ≤ 8) && decide (0 ≤ a.states ∧ a.states ≤ 31) && decide (0 ≤ a.start ∧ a.start < ((2 ^ a.states.toNat : Nat) : Int)) && decide (a.edges.length ≤ 2000)
def autoOk (a : TAuto) : Bool := headOk a && (List.range a.edges.length).all (edgeOk a)
theorem headOk_t {a : TAuto} (h : headOk a = true) : (1 ≤ a.letters ∧ a.letters ≤ 8) ∧ (0 ≤ a.states ∧ a.states ≤ 31) ∧ (0 ≤ a.start ∧ a.start < ((2 ^ a.states.toNat : Nat) : Int)) ∧ a.edges.length ≤ 2000 := by
  unfold headOk at h
  simp only [Bool.and_eq_true, decide_eq_true_eq] at h
  exact ⟨h.1.1.1, h.1.1.2, h.1.2, h.2⟩
theorem specEdge_eq (a : TAuto) (h : headOk a = true) {k : Nat} (hk : k < a.edges.length) : spec_AutoOk.b0 a (k : Int) = some (if edgeOk a k = true then .inl ((k + 1 : Nat) : Int) else .inr (.inr false)) := by
  obtain ⟨h1, h2, h3, h4⟩ := headOk_t h
  unfold spec_AutoOk.b0 edgeOk spec_l4State
  have w1 : W (a.states - 1) = a.states - 1 := W_eq (by omega) (by omega)
  have w2 : W (a.letters - 1) = a.letters - 1 := W_eq (by omega) (by omega)
  simp only [bnd_eq, l1Rg, w1, w2, l4Less_eq]
  rw [if_pos (by omega), ix_nat hk, Option.bind_some, WN (by omega)]
  generalize a.edges.getD k default = e
  by_cases c1 : 0 ≤ e.from_ ∧ e.from_ ≤ a.states - 1
  · by_cases c2 : 0 ≤ e.to_ ∧ e.to_ ≤ a.states - 1
    · by_cases c3 : 0 ≤ e.letter ∧ e.letter ≤ a.letters - 1
      · rw [decide_eq_true c1, decide_eq_true c2, decide_eq_true c3]
        by_cases c4 : k = 0
        · subst c4; rfl
        · rw [decide_eq_true (by omega : (k : Int) > 0), decide_eq_false c4]
          have e1 : W ((k : Int) - 1) = ((k - 1 : Nat) : Int) := by rw [W, W_eq (by omega) (by omega)]; omega
          rw [e1, ix_nat (by omega)]
          simp only [Bool.not_true, Bool.or_self, Bool.not_false, Bool.and_self, whenO_t, Option.bind_some, Bool.false_or, Bool.true_and]
          cases edgeLt (a.edges.getD (k - 1) default) e <;> rfl
      · rw [decide_eq_false c3]; simp [whenO]
    · rw [decide_eq_false c2]; simp [whenO]
  · rw [decide_eq_false c1]; simp [whenO]
theorem implEdge_eq (a : TAuto) (h : headOk a = true) {k : Nat} (hk : k < a.edges.length) : impl_AutoOk.b0 a (k : Int) = some (if edgeOk a k = true then .inl ((k + 1 : Nat) : Int) else .inr (.inr false)) := by
  obtain ⟨h1, h2, h3, h4⟩ := headOk_t h
  unfold impl_AutoOk.b0 edgeOk
  have w1 : W (a.states - 1) = a.states - 1 := W_eq (by omega) (by omega)
  have w2 : W (a.letters - 1) = a.letters - 1 := W_eq (by omega) (by omega)
  simp only [bnd_eq, inRg, w1, w2]
  rw [if_pos (by omega), ix_nat hk, Option.bind_some, WN (by omega)]
  generalize a.edges.getD k default = e
  by_cases c1 : 0 ≤ e.from_ ∧ e.from_ ≤ a.states - 1
  · by_cases c2 : 0 ≤ e.to_ ∧ e.to_ ≤ a.states - 1
    · by_cases c3 : 0 ≤ e.letter ∧ e.letter ≤ a.letters - 1
      · rw [decide_eq_true c1, decide_eq_true c2, decide_eq_true c3]
        rw [if_neg (by simp)]
        by_cases c4 : k = 0
        · subst c4; rfl
        · rw [decide_eq_true (by omega : (k : Int) > 0), decide_eq_false c4]
          have e1 : W ((k : Int) - 1) = ((k - 1 : Nat) : Int) := by rw [W, W_eq (by omega) (by omega)]; omega
          rw [e1, ix_nat (by omega)]
          obtain ⟨x, x1, x2⟩ := compareEdges_eq (a.edges.getD (k - 1) default) e
          rw [whenO_t, Option.bind_some, whenO_t, x1, Option.bind_some, x2]
          cases edgeLt (a.edges.getD (k - 1) default) e <;> rfl
      · rw [decide_eq_false c3]; simp
    · rw [decide_eq_false c2]; simp
  · rw [decide_eq_false c1]; simp
theorem specAutoOk_eq (a : TAuto) : spec_AutoOk a = some (autoOk a) := by
  unfold spec_AutoOk autoOk
  rw [bnd_eq, bnd_eq, bnd_eq, l1Rg, l1Rg]
  by_cases hh : headOk a = true
  · obtain ⟨h1, h2, h3, h4⟩ := headOk_t hh
    rw [decide_eq_true h1, decide_eq_true h2, Bool.not_true, Bool.or_self, Bool.not_false, whenO_t, decide_eq_true h2.1, chk_t, Option.bind_some]
    have e : a.states = ((a.states.toNat : Nat) : Int) := by omega
    have hs := setIn_eq a.start (n := a.states.toNat) (by omega)
    rw [← e] at hs
    rw [hs, decide_eq_true h3, decide_eq_false (by omega : ¬ (a.edges.length : Int) > 2000), if_neg (by simp), hh]
    rw [all_loop a.edges.length (edgeOk a) (fun k hk => specEdge_eq a hh hk) (by unfold spec_AutoOk.b0; rw [if_neg (by omega)]), Option.bind_some]
    cases (List.range a.edges.length).all (edgeOk a) <;> rfl
  · rw [Bool.not_eq_true] at hh
    rw [hh, Bool.false_and]
    by_cases h1 : 1 ≤ a.letters ∧ a.letters ≤ 8
    · by_cases h2 : 0 ≤ a.states ∧ a.states ≤ 31
      · rw [decide_eq_true h1, decide_eq_true h2, Bool.not_true, Bool.or_self, Bool.not_false, whenO_t, decide_eq_true h2.1, chk_t, Option.bind_some]
        have e : a.states = ((a.states.toNat : Nat) : Int) := by omega
        have hs := setIn_eq a.start (n := a.states.toNat) (by omega)
        rw [← e] at hs
        rw [hs]
        unfold headOk at hh
        rw [decide_eq_true h1, decide_eq_true h2] at hh
        rw [if_pos]
        by_cases h3 : 0 ≤ a.start ∧ a.start < ((2 ^ a.states.toNat : Nat) : Int)
        · rw [decide_eq_true h3] at hh
          have : ¬ a.edges.length ≤ 2000 := by simpa using hh
          rw [decide_eq_true (by omega : (a.edges.length : Int) > 2000), Bool.or_true]
        · rw [decide_eq_false h3]; simp
      · rw [decide_eq_false h2]; simp [whenO]
    · rw [decide_eq_false h1]; simp [whenO]
theorem implAutoOk_eq (a : TAuto) : impl_AutoOk a = some (autoOk a) := by
  have hd : (impl_headOk a.letters a.states a.start && decide (a.edges.length ≤ 2000)) = headOk a := by
    unfold impl_headOk headOk impl_isLetters impl_SetOk
    simp only [bnd_eq, inRg]
    by_cases h2 : 0 ≤ a.states ∧ a.states ≤ 31
    · have ho := only_eq (n := a.states.toNat) (by omega)
      rw [show ((a.states.toNat : Nat) : Int) = a.states by omega] at ho
      have hp := pow31 (n := a.states.toNat) (by omega)
      rw [ho]
      congr 1
      rw [Bool.and_assoc]
      congr 1
      rw [← Bool.decide_and, decide_eq_decide]
      omega
    · rw [decide_eq_false h2]; simp
  unfold impl_AutoOk autoOk
  rw [bnd_eq, ← hd]
  by_cases hl : a.edges.length ≤ 2000
  · rw [decide_eq_true hl, decide_eq_false (by omega : ¬ (a.edges.length : Int) > 2000), Bool.and_true, Bool.or_false]
    rw [decide_eq_true hl, Bool.and_true] at hd
    cases hh : impl_headOk a.letters a.states a.start with
    | false => rw [Bool.not_false, if_pos rfl]; rfl
    | true =>
      rw [hh] at hd
      rw [Bool.not_true, if_neg (by simp), all_loop a.edges.length (edgeOk a) (fun k hk => implEdge_eq a hd.symm hk) (by unfold impl_AutoOk.b0; rw [if_neg (by omega)]), Option.bind_some]
      cases (List.range a.edges.length).all (edgeOk a) <;> rfl
  · rw [decide_eq_true (by omega : (a.edges.length : Int) > 2000), Bool.or_true, if_pos rfl, decide_eq_false hl, Bool.and_false]; rfl
/-- What a right automaton's edges are. -/
theorem autoOk_t {a : TAuto} (h : autoOk a = true) : headOk a = true ∧ ∀ k, k < a.edges.length → (0 ≤ (a.edges.getD k default).from_ ∧ (a.edges.getD k default).from_ ≤ 30) ∧ (0 ≤ (a.edges.getD k default).to_ ∧ (a.edges.getD k default).to_ ≤ 30) := by
  unfold autoOk at h
  rw [Bool.and_eq_true] at h
  refine ⟨h.1, fun k hk => ?_⟩
  have h2 := (headOk_t h.1).2.1
  have := List.all_eq_true.mp h.2 k (List.mem_range.mpr hk)
  unfold edgeOk at this
  simp only [Bool.and_eq_true, decide_eq_true_eq] at this
  omega
end Go.Proofs.Ythdoebgikbfndaa
end

/- The automaton of a regex, by the reference. -/
section
namespace Go.Proofs.Ythdoebgikbfndaa
open Go Go.RowKit E
set_option linter.unusedVariables false

theorem loop_to {σ ρ : Type} {body : σ → Option (σ ⊕ ρ)} (st : Nat → σ) : ∀ k, (∀ j, j < k → body (st j) = some (.inl (st (j + 1)))) → loop body (st 0) = loop body (st k)
  | 0, _ => rfl
  | k + 1, h => by rw [loop_to st k (fun j hj => h j (by omega)), loop_go (h k (by omega))]
theorem first_bad {p : Nat → Bool} : ∀ n, (∃ k, k < n ∧ p k = true) → ∃ k, k < n ∧ p k = true ∧ ∀ j, j < k → p j = false
  | 0, h => by obtain ⟨k, hk, _⟩ := h; omega
  | n + 1, h => by
    by_cases c : ∃ k, k < n ∧ p k = true
    · obtain ⟨k, h1, h2, h3⟩ := first_bad n c
      exact ⟨k, by omega, h2, h3⟩
    · obtain ⟨k, h1, h2⟩ := h
      refine ⟨k, h1, h2, fun j hj => ?_⟩
      cases hp : p j with
      | false => rfl
      | true => exact absurd ⟨j, by omega, hp⟩ c
/-- A letter that is not below a number. -/
def badL (e : List TNode) (l : Int) (k : Nat) : Bool := decide ((e.getD k default).kind = 3) && decide ((e.getD k default).a ≥ l)
def hasBad (e : List TNode) (l : Int) : Bool := (List.range e.length).any (badL e l)
theorem hasBad_t {e : List TNode} {l : Int} (h : hasBad e l = true) : ∃ k, k < e.length ∧ badL e l k = true ∧ ∀ j, j < k → badL e l j = false := by
  unfold hasBad at h
  rw [List.any_eq_true] at h
  obtain ⟨k, h1, h2⟩ := h
  exact first_bad _ ⟨k, List.mem_range.mp h1, h2⟩
theorem hasBad_f {e : List TNode} {l : Int} (h : hasBad e l = false) : ∀ k, k < e.length → badL e l k = false := fun k hk => by
  unfold hasBad at h
  rw [List.any_eq_false] at h
  have := h k (List.mem_range.mpr hk)
  simpa using this
theorem numsN_succ (e : List TNode) (k : Nat) : numsN e (k + 1) = numsN e k ++ [((ltN e k + 1 : Nat) : Int)] := by
  unfold numsN; rw [List.range_succ, List.map_append]; rfl
theorem numsN_len (e : List TNode) (k : Nat) : (numsN e k).length = k := by unfold numsN; simp
theorem letsN_succ {e : List TNode} {k : Nat} (hk : k < e.length) : letsN (e.take (k + 1)) = if (e.getD k default).kind = 3 then letsN (e.take k) ++ [(e.getD k default).a] else letsN (e.take k) := by
  unfold letsN
  rw [take_snoc hk, List.filter_append, List.map_append, flt1]
  unfold isLt
  by_cases c : (e.getD k default).kind = 3
  · rw [if_pos (decide_eq_true c), if_pos c]; rfl
  · rw [if_neg (by rw [decide_eq_false c]; simp), if_neg c]; simp
theorem lets_take (e : List TNode) (k : Nat) : (letsN (e.take k)).length = ltN e k := by unfold letsN ltN; simp

/-- The reference's numbering. -/
theorem num_loop {e : List TNode} (h31 : e.length ≤ 31) (l : Int) : ∃ r, loop (fun s : Int × Int × Int × List TEdge × Int × List Int × List Int × Int => spec_ReNfa.b4 e l s.1 s.2.1 s.2.2.1 s.2.2.2.1 s.2.2.2.2.1 s.2.2.2.2.2.1 s.2.2.2.2.2.2.1 s.2.2.2.2.2.2.2) (0, 0, 0, [], 0, [], [0], 0) = some r ∧
    r = if hasBad e l = true then .inr (⟨⟨0, 0, 0, []⟩, 0⟩, false) else .inl (0, 0, 0, [], 0, numsN e e.length, 0 :: letsN e) := by
  refine ⟨_, ?_, rfl⟩
  have step : ∀ k, k < e.length → spec_ReNfa.b4 e l 0 0 0 [] 0 (numsN e k) (0 :: letsN (e.take k)) (k : Int) = if badL e l k = true then some (.inr (.inr (⟨⟨0, 0, 0, []⟩, 0⟩, false))) else some (.inl (0, 0, 0, [], 0, numsN e (k + 1), 0 :: letsN (e.take (k + 1)), ((k + 1 : Nat) : Int))) := fun k hk => by
    have h1 := ltN_le e k
    have h2 := lets_take e k
    have h3 := numsN_len e k
    have e1 : (((0 :: letsN (e.take k)).length : Nat) : Int) = ((ltN e k + 1 : Nat) : Int) := by rw [List.length_cons, h2]
    unfold spec_ReNfa.b4 badL
    rw [if_pos (by omega), e1, app_small (by simp; omega) (by omega), Option.bind_some, ix_nat hk, numsN_succ, letsN_succ hk, WN (by omega)]
    simp only [Option.bind_some]
    by_cases c : (e.getD k default).kind = 3
    · rw [if_pos c, if_pos c, app_small (by simp; omega) (by omega), Option.bind_some, decide_eq_true c, Bool.true_and]
      by_cases d : (e.getD k default).a ≥ l
      · rw [if_pos d, if_pos (decide_eq_true d)]
      · rw [if_neg d, if_neg (by simpa using d)]; rfl
    · rw [if_neg c, if_neg c, decide_eq_false c, Bool.false_and, if_neg (by simp)]
  have run : ∀ k, k ≤ e.length → (∀ j, j < k → badL e l j = false) → loop (fun s : Int × Int × Int × List TEdge × Int × List Int × List Int × Int => spec_ReNfa.b4 e l s.1 s.2.1 s.2.2.1 s.2.2.2.1 s.2.2.2.2.1 s.2.2.2.2.2.1 s.2.2.2.2.2.2.1 s.2.2.2.2.2.2.2) (0, 0, 0, [], 0, [], [0], 0)
      = loop (fun s : Int × Int × Int × List TEdge × Int × List Int × List Int × Int => spec_ReNfa.b4 e l s.1 s.2.1 s.2.2.1 s.2.2.2.1 s.2.2.2.2.1 s.2.2.2.2.2.1 s.2.2.2.2.2.2.1 s.2.2.2.2.2.2.2) (0, 0, 0, [], 0, numsN e k, 0 :: letsN (e.take k), (k : Int)) := fun k hk hg =>
    loop_to (fun k => (0, 0, 0, [], 0, numsN e k, 0 :: letsN (e.take k), (k : Int))) k fun j hj => by
      have := step j (by omega)
      rw [hg j hj, if_neg (by simp)] at this
      exact this
  by_cases hb : hasBad e l = true
  · obtain ⟨k, h1, h2, h3⟩ := hasBad_t hb
    rw [if_pos hb, run k (by omega) h3]
    exact loop_end (by have := step k h1; rw [if_pos h2] at this; exact this)
  · rw [if_neg hb, run e.length (Nat.le_refl _) (fun j hj => hasBad_f (by simpa using hb) j hj), List.take_length]
    exact loop_end (by dsimp only; unfold spec_ReNfa.b4; rw [if_neg (by omega)])

/-- A row of numbers. -/
def LR (m : Nat) (f : Nat → Nat) : List Int := (List.range m).map fun q => ((f q : Nat) : Int)
theorem LR_len (m : Nat) (f : Nat → Nat) : (LR m f).length = m := by unfold LR; simp
theorem LR_ix {m : Nat} {f : Nat → Nat} {q : Nat} (h : q < m) : ix (LR m f) (q : Int) = some ((f q : Nat) : Int) := by
  rw [ix_nat (by rw [LR_len]; exact h)]
  unfold LR
  simp [List.getD_eq_getElem?_getD, h]
theorem LR_set {m : Nat} {f : Nat → Nat} {q v : Nat} : (LR m f).set q (v : Int) = LR m fun j => if j = q then v else f j := by
  apply List.ext_getElem?
  intro i
  unfold LR
  by_cases c : i = q
  · subst c
    by_cases d : i < m
    · simp [d]
    · simp [d]
  · rw [List.getElem?_set_ne (fun g => c g.symm)]
    by_cases d : i < m
    · simp [d, c]
    · simp [d]
theorem LR_congr {m : Nat} {f g : Nat → Nat} (h : ∀ q, q < m → f q = g q) : LR m f = LR m g := by
  unfold LR
  apply List.map_congr_left
  intro q hq
  rw [h q (List.mem_range.mp hq)]

/-- What a node's last letters are, and what comes behind them. -/
def lj (e : List TNode) (j : Nat) : Nat := if (e.getD j default).kind = 4 ∨ (e.getD j default).kind = 5 then (G e (e.getD j default).a.toNat).last else 0
def nj (e : List TNode) (j : Nat) : Nat := if (e.getD j default).kind = 4 then (G e (e.getD j default).a.toNat).first else if (e.getD j default).kind = 5 then (G e (e.getD j default).b.toNat).first else 0
theorem con_eq (e : List TNode) (j q : Nat) : con e j q = if (lj e j).testBit q = true then nj e j else 0 := by
  unfold con lj nj
  by_cases k4 : (e.getD j default).kind = 4
  · have o : (e.getD j default).kind = 4 ∨ (e.getD j default).kind = 5 := .inl k4
    simp only [if_pos k4, if_pos o]
  by_cases k5 : (e.getD j default).kind = 5
  · have o : (e.getD j default).kind = 4 ∨ (e.getD j default).kind = 5 := .inr k5
    simp only [if_neg k4, if_pos k5, if_pos o]
  · have o : ¬ ((e.getD j default).kind = 4 ∨ (e.getD j default).kind = 5) := by omega
    simp only [if_neg k4, if_neg k5, if_neg o]
    simp
/-- What comes behind letter q by the nodes ahead of i. -/
def behI (e : List TNode) (i q : Nat) : Nat := (List.range i).foldl (fun a j => a ||| con e j q) 0
theorem behI_succ (e : List TNode) (i q : Nat) : behI e (i + 1) q = behI e i q ||| con e i q := by unfold behI; rw [List.range_succ, List.foldl_append]; rfl
theorem behI_bit (e : List TNode) (q r : Nat) : ∀ i, (behI e i q).testBit r = true ↔ ∃ j, j < i ∧ (con e j q).testBit r = true
  | 0 => by simp [behI]
  | i + 1 => by
    rw [behI_succ, Nat.testBit_or, Bool.or_eq_true, behI_bit e q r i]
    constructor
    · rintro (⟨j, h1, h2⟩ | h)
      · exact ⟨j, by omega, h2⟩
      · exact ⟨i, by omega, h⟩
    · rintro ⟨j, h1, h2⟩
      by_cases c : j = i
      · subst c; exact .inr h2
      · exact .inl ⟨j, by omega, h2⟩
theorem behI_all {e : List TNode} (h : treeOk reP e = true) (q : Nat) : behI e e.length q = (G e (e.length - 1)).beh q := by
  have hn := treeOk_nodes h
  have h1 := hn.1
  refine Nat.eq_of_testBit_eq fun r => ?_
  rw [Bool.eq_iff_iff, behI_bit, beh_iff hn (treeOk_sub h)]
  constructor
  · rintro ⟨j, h2, h3⟩; exact ⟨j, by omega, by omega, h3⟩
  · rintro ⟨j, h2, h3, h4⟩; exact ⟨j, by omega, h4⟩

section
variable {e : List TNode} (ht : treeOk reP e = true)
theorem lj_lt (ht : treeOk reP e = true) {j : Nat} (hj : j < e.length) : lj e j < 2 ^ 30 ∧ nj e j < 2 ^ 30 := by
  have hn := treeOk_nodes ht
  have hl := few_letters ht
  have hk := reKinds (hn.2.2 j hj)
  have hgb : ∀ z : Int, 0 ≤ z → z < j → GB 29 (G e z.toNat) := fun z h0 h1 => (G_ok hn z.toNat (by omega)).mono (Nat.le_trans (ltN_mono (by omega)) (show ltN e e.length ≤ 29 by omega))
  have p : 0 < 2 ^ 30 := Nat.two_pow_pos _
  unfold lj nj
  refine ⟨?_, ?_⟩
  · split
    · exact (hgb _ (by omega) (by omega)).l
    · exact p
  · split
    · exact (hgb _ (by omega) (by omega)).f
    · split
      · exact (hgb _ (by omega) (by omega)).f
      · exact p
theorem con_lt (ht : treeOk reP e = true) {j : Nat} (hj : j < e.length) (q : Nat) : con e j q < 2 ^ 30 := by
  rw [con_eq]
  split
  · exact (lj_lt ht hj).2
  · exact Nat.two_pow_pos _
theorem behI_lt (ht : treeOk reP e = true) (q : Nat) : ∀ i, i ≤ e.length → behI e i q < 2 ^ 30
  | 0, _ => Nat.two_pow_pos _
  | i + 1, h => by rw [behI_succ]; exact Nat.or_lt_two_pow (behI_lt ht q i (by omega)) (con_lt ht (by omega) q)
def FI (e : List TNode) (i q : Nat) : Nat := if q = 0 then (G e (e.length - 1)).first else behI e i q
theorem FI_lt (ht : treeOk reP e = true) {i : Nat} (hi : i ≤ e.length) (q : Nat) : FI e i q < 2 ^ 30 := by
  have hn := treeOk_nodes ht
  have h1 := hn.1
  have hl := few_letters ht
  unfold FI
  split
  · exact ((G_ok hn (e.length - 1) (by omega)).mono (d := 29) (by rw [show e.length - 1 + 1 = e.length by omega]; omega)).f
  · exact behI_lt ht q i hi
/-- One node's part. -/
theorem part_loop (ht : treeOk reP e = true) {m : Nat} (hm : 1 ≤ m ∧ m ≤ 30) (by_ : List Int) (hb : by_.length = m) {i : Nat} (hi : i < e.length) : loop (fun s : List Int × Int => spec_ReNfa.b3 by_ ((lj e i : Nat) : Int) ((nj e i : Nat) : Int) s.1 s.2) (LR m (FI e i), 1) = some (LR m (FI e (i + 1))) := by
  obtain ⟨b1, b2⟩ := lj_lt ht hi
  have p : (2 : Nat) ^ 30 = 1073741824 := rfl
  have h := loop_up (body := fun s : List Int × Int => spec_ReNfa.b3 by_ ((lj e i : Nat) : Int) ((nj e i : Nat) : Int) s.1 s.2) (m - 1) (fun k => (LR m (fun q => if q < k + 1 then FI e (i + 1) q else FI e i q), ((k + 1 : Nat) : Int))) (LR m (FI e (i + 1))) (fun k hk => by
      have hF := FI_lt ht (Nat.le_of_lt hi) (k + 1)
      have hh := l1Has_eq (s := lj e i) (by omega) (x := ((k + 1 : Nat) : Int)) (by omega)
      rw [Int.toNat_natCast] at hh
      dsimp only
      unfold spec_ReNfa.b3
      rw [if_pos (by omega), hh, Option.bind_some, WN (by omega)]
      have hnew : FI e (i + 1) (k + 1) = FI e i (k + 1) ||| con e i (k + 1) := by unfold FI; rw [if_neg (by omega), if_neg (by omega), behI_succ]
      rw [con_eq] at hnew
      by_cases c : (lj e i).testBit (k + 1) = true
      · rw [if_pos c] at hnew ⊢
        rw [LR_ix (by omega), Option.bind_some, ck_nat (by rw [LR_len]; omega), Option.bind_some, if_neg (by omega), bOr_i (by omega) (by omega), ← hnew, LR_set]
        congr 3
        apply LR_congr
        intro q hq
        by_cases d : q = k + 1
        · subst d; rw [if_pos rfl, if_pos (by omega)]
        · rw [if_neg d]
          by_cases d2 : q < k + 1
          · rw [if_pos d2, if_pos (by omega)]
          · rw [if_neg d2, if_neg (by omega)]
      · rw [if_neg c] at hnew ⊢
        rw [Nat.or_zero] at hnew
        congr 3
        apply LR_congr
        intro q hq
        by_cases d : q = k + 1
        · subst d; rw [if_neg (by omega), if_pos (by omega), hnew]
        · by_cases d2 : q < k + 1
          · rw [if_pos d2, if_pos (by omega)]
          · rw [if_neg d2, if_neg (by omega)]) (by
      dsimp only
      unfold spec_ReNfa.b3
      rw [if_neg (by omega)]
      congr 2
      exact LR_congr fun q hq => by rw [if_pos (by omega)]) 0 (Nat.zero_le _)
  have h0 : LR m (fun q => if q < 0 + 1 then FI e (i + 1) q else FI e i q) = LR m (FI e i) := LR_congr fun q hq => by
    by_cases c : q < 0 + 1
    · rw [if_pos c]
      obtain rfl : q = 0 := by omega
      rfl
    · rw [if_neg c]
  rw [h0] at h
  exact h
end
end Go.Proofs.Ythdoebgikbfndaa
end

/- The automaton of a regex, by the reference: all of it. -/
section
namespace Go.Proofs.Ythdoebgikbfndaa
open Go Go.RowKit E
set_option linter.unusedVariables false

theorem edgeZ {e : List TNode} (ht : treeOk reP e = true) {x : Int} (h0 : 0 ≤ x) (h1 : x < e.length) (b : Bool) : spec_l11Edge 40 e x (numsN e e.length) b = some ((if b = true then (G e x.toNat).first else (G e x.toNat).last : Nat) : Int) := by
  have hn := treeOk_nodes ht
  have h31 := hn.2.1
  have hl := few_letters ht
  have := edge_eq hn (by omega) x.toNat 40 (by omega) (by omega) b
  rw [show ((x.toNat : Nat) : Int) = x by omega] at this
  exact this
theorem node_loop {e : List TNode} (ht : treeOk reP e = true) {m : Nat} (hm : 1 ≤ m ∧ m ≤ 30) (by_ : List Int) (hb : by_.length = m) : loop (fun s : List Int × Int => spec_ReNfa.b2 e 40 (numsN e e.length) by_ s.1 s.2) (LR m (FI e 0), 0) = some (LR m (FI e e.length)) := by
  have hn := treeOk_nodes ht
  have h31 := hn.2.1
  exact loop_up (body := fun s : List Int × Int => spec_ReNfa.b2 e 40 (numsN e e.length) by_ s.1 s.2) e.length (fun k => (LR m (FI e k), (k : Int))) (LR m (FI e e.length)) (fun k hk => by
      have hkk := reKinds (hn.2.2 k hk)
      have hp := part_loop ht hm by_ hb hk
      have tail : spec_ReNfa.k5 by_ (LR m (FI e k)) (k : Int) ((lj e k : Nat) : Int) ((nj e k : Nat) : Int) = some (.inl (LR m (FI e (k + 1)), ((k + 1 : Nat) : Int))) := by
        unfold spec_ReNfa.k5
        rw [hp, Option.bind_some]
        unfold spec_ReNfa.k4
        rw [WN (by omega)]
      dsimp only
      unfold spec_ReNfa.b2
      rw [if_pos (by omega)]
      simp only [ix_nat hk, Option.bind_some]
      unfold lj nj at tail
      by_cases k4 : (e.getD k default).kind = 4
      · have o : (e.getD k default).kind = 4 ∨ (e.getD k default).kind = 5 := .inl k4
        rw [if_pos o, if_pos k4] at tail
        rw [if_pos k4, edgeZ ht (by omega) (by omega), Option.bind_some, edgeZ ht (by omega) (by omega), Option.bind_some]
        exact tail
      by_cases k5 : (e.getD k default).kind = 5
      · have o : (e.getD k default).kind = 4 ∨ (e.getD k default).kind = 5 := .inr k5
        rw [if_pos o, if_neg k4, if_pos k5] at tail
        rw [if_neg k4, if_pos k5, edgeZ ht (by omega) (by omega), Option.bind_some, edgeZ ht (by omega) (by omega), Option.bind_some]
        exact tail
      · have o : ¬ ((e.getD k default).kind = 4 ∨ (e.getD k default).kind = 5) := by omega
        rw [if_neg o, if_neg k4, if_neg k5] at tail
        rw [if_neg k4, if_neg k5]
        exact tail) (by dsimp only; unfold spec_ReNfa.b2; rw [if_neg (by omega)]) 0 (Nat.zero_le _)
theorem flw_FI {e : List TNode} (ht : treeOk reP e = true) (q : Nat) : FI e e.length q = flw e q := by
  unfold FI flw
  rw [behI_all ht]
theorem lets_ix {e : List TNode} {k : Nat} (hk : k < ltN e e.length) : ix (letsN e) (k : Int) = some ((letsN e).getD k 0) := by
  rw [ix_nat (by rw [lets_len]; exact hk)]; rfl
theorem by_ix {e : List TNode} {k : Nat} (hk : k < ltN e e.length) : ix (0 :: letsN e) ((k + 1 : Nat) : Int) = some ((letsN e).getD k 0) := by
  rw [ix_nat (by rw [List.length_cons, lets_len]; omega)]; simp [List.getD_eq_getElem?_getD]
theorem row_loop {e : List TNode} (ht : treeOk reP e = true) {q : Nat} (hq : q < ltN e e.length + 1) (acc : List TEdge) (ha : acc.length ≤ 100000) :
    loop (fun s : List TEdge × Int => spec_ReNfa.b1 (0 :: letsN e) (LR (ltN e e.length + 1) (flw e)) (q : Int) s.1 s.2) (acc, 1) = some (acc ++ rowQ e (flw e q) q (ltN e e.length)) := by
  have hl := few_letters ht
  have hF := FI_lt ht (Nat.le_refl _) q
  rw [flw_FI ht] at hF
  have p : (2 : Nat) ^ 30 = 1073741824 := rfl
  have hlen : (0 :: letsN e).length = ltN e e.length + 1 := by rw [List.length_cons, lets_len]
  have h := loop_up (body := fun s : List TEdge × Int => spec_ReNfa.b1 (0 :: letsN e) (LR (ltN e e.length + 1) (flw e)) (q : Int) s.1 s.2) (ltN e e.length) (fun k => (acc ++ rowQ e (flw e q) q k, ((k + 1 : Nat) : Int))) (acc ++ rowQ e (flw e q) q (ltN e e.length)) (fun k hk => by
      have hr := rowQ_len e (flw e q) q k
      have hh := l1Has_eq (s := flw e q) (by omega) (x := ((k + 1 : Nat) : Int)) (by omega)
      rw [Int.toNat_natCast] at hh
      dsimp only
      unfold spec_ReNfa.b1
      rw [if_pos (by rw [hlen]; omega), LR_ix hq, Option.bind_some, hh, Option.bind_some, by_ix hk, Option.bind_some, WN (by omega), rowQ_succ]
      by_cases c : (flw e q).testBit (k + 1) = true
      · rw [if_pos c, if_pos c, app_small (by simp; omega) (by omega), Option.bind_some, List.append_assoc]; rfl
      · rw [if_neg c, if_neg c]) (by dsimp only; unfold spec_ReNfa.b1; rw [if_neg (by rw [hlen]; omega)]) 0 (Nat.zero_le _)
  have e0 : acc ++ rowQ e (flw e q) q 0 = acc := by simp [rowQ]
  rw [e0] at h
  exact h
theorem rows_loop {e : List TNode} (ht : treeOk reP e = true) : loop (fun s : List TEdge × Int => spec_ReNfa.b0 (0 :: letsN e) (LR (ltN e e.length + 1) (flw e)) s.1 s.2) ([], 0) = some (edgesS e (ltN e e.length) (ltN e e.length + 1)) := by
  have hl := few_letters ht
  have hlen : (0 :: letsN e).length = ltN e e.length + 1 := by rw [List.length_cons, lets_len]
  exact loop_up (body := fun s : List TEdge × Int => spec_ReNfa.b0 (0 :: letsN e) (LR (ltN e e.length + 1) (flw e)) s.1 s.2) (ltN e e.length + 1) (fun k => (edgesS e (ltN e e.length) k, (k : Int))) (edgesS e (ltN e e.length) (ltN e e.length + 1)) (fun k hk => by
      have hr := edgesS_len e (ltN e e.length) k
      have hb : k * ltN e e.length ≤ 17 * 16 := Nat.mul_le_mul (by omega) hl
      dsimp only
      unfold spec_ReNfa.b0
      rw [if_pos (by rw [hlen]; omega), row_loop ht hk _ (by omega), Option.bind_some, edgesS_succ]
      unfold spec_ReNfa.k3
      rw [WN (by omega)]) (by dsimp only; unfold spec_ReNfa.b0; rw [if_neg (by rw [hlen]; omega)]) 0 (Nat.zero_le _)
/-- Letters are right ones. -/
theorem lets_rng {e : List TNode} (ht : treeOk reP e = true) {l : Int} (hb : hasBad e l = false) : ∀ x ∈ letsN e, 0 ≤ x ∧ x < l := by
  have hn := treeOk_nodes ht
  intro x hx
  unfold letsN at hx
  obtain ⟨n, hm, rfl⟩ := List.mem_map.mp hx
  obtain ⟨h1, h2⟩ := List.mem_filter.mp hm
  obtain ⟨k, hk, rfl⟩ := List.getElem_of_mem h1
  have e1 : e.getD k default = e[k] := by simp [List.getD_eq_getElem?_getD, hk]
  have h3 := hasBad_f hb k hk
  have h4 := hn.2.2 k hk
  unfold isLt at h2
  have k3 : e[k].kind = 3 := of_decide_eq_true h2
  unfold badL at h3
  rw [e1, decide_eq_true k3, Bool.true_and, decide_eq_false_iff_not] at h3
  rw [e1] at h4
  have hr := reP_eq e[k]
  rw [if_neg (by omega), if_pos k3] at hr
  unfold NodeAt at h4
  split at hr <;> omega
theorem edges_EE {e : List TNode} (ht : treeOk reP e = true) {L : Nat} (hb : hasBad e (L : Int) = false) : ∀ x ∈ edgesS e (ltN e e.length) (ltN e e.length + 1), EE (ltN e e.length + 1) L x := by
  intro x hx
  obtain ⟨q, r, hq, hr, _, rfl⟩ := mem_S.mp hx
  have hr' : r < (letsN e).length := by rw [lets_len]; exact hr
  have hm : (letsN e).getD r 0 ∈ letsN e := by rw [List.getD_eq_getElem?_getD, List.getElem?_eq_getElem hr']; exact List.getElem_mem hr'
  have := lets_rng ht hb _ hm
  unfold ed
  rw [Nat.add_sub_cancel]
  exact ⟨by simp only; omega, by simp only; omega, by simp only; omega⟩
def finN (e : List TNode) : Nat := if (G e (e.length - 1)).null = true then (G e (e.length - 1)).last ||| 1 else (G e (e.length - 1)).last
theorem finN_lt {e : List TNode} (ht : treeOk reP e = true) : finN e < 2 ^ (ltN e e.length + 1) := by
  have hn := treeOk_nodes ht
  have h1 := hn.1
  have hg := G_ok hn (e.length - 1) (by omega)
  rw [show e.length - 1 + 1 = e.length by omega] at hg
  have h2 : 1 < 2 ^ (ltN e e.length + 1) := Nat.one_lt_two_pow (by omega)
  unfold finN
  split
  · exact Nat.or_lt_two_pow hg.l h2
  · exact hg.l
theorem specReNfa_good {e : List TNode} (ht : treeOk reP e = true) {L : Nat} (bL : 1 ≤ L ∧ L ≤ 8) (hb : hasBad e (L : Int) = false) : ∃ s, spec_ReNfa 40 e (L : Int) = some (⟨⟨(L : Int), ((ltN e e.length + 1 : Nat) : Int), 1, s⟩, (finN e : Nat)⟩, true) ∧ s.Perm (edgesS e (ltN e e.length) (ltN e e.length + 1)) ∧ s.Pairwise fun a b => edgeLt a b = true := by
  have hn := treeOk_nodes ht
  have h1 := hn.1
  have h31 := hn.2.1
  have hl := few_letters ht
  have hE := edges_EE ht hb
  have hlenE := edgesS_len e (ltN e e.length) (ltN e e.length + 1)
  have hbE : (ltN e e.length + 1) * ltN e e.length ≤ 17 * 16 := Nat.mul_le_mul (by omega) hl
  have p2 : 2 ≤ 2 ^ (ltN e e.length + 1) := Nat.pow_le_pow_right (n := 2) (by omega) (by omega : 1 ≤ ltN e e.length + 1)
  have hok : spec_AutoOk ⟨(L : Int), ((ltN e e.length + 1 : Nat) : Int), 1, []⟩ = some true := by
    rw [specAutoOk_eq]
    unfold autoOk headOk
    simp only [List.length_nil, List.range_zero, List.all_nil, Bool.and_true, Int.toNat_natCast]
    rw [decide_eq_true (by omega), decide_eq_true (by omega), decide_eq_true (by omega)]; rfl
  obtain ⟨s, s1, s2, s3⟩ := autoMake_eq (S := ltN e e.length + 1) (L := L) (by omega) bL hok (E := edgesS e (ltN e e.length) (ltN e e.length + 1)) (by omega) hE
    ((key_S e _ _).imp_of_mem fun {a b} ha hb h => keyE_ne (hE a ha) (hE b hb) h)
  refine ⟨s, ?_, s2, s3⟩
  obtain ⟨r, r1, r2⟩ := num_loop h31 (L : Int)
  rw [hb, if_neg (by simp)] at r2
  have hlen : (0 :: letsN e).length = ltN e e.length + 1 := by rw [List.length_cons, lets_len]
  have w : W ((e.length : Int) - 1) = ((e.length - 1 : Nat) : Int) := by rw [W, W_eq (by omega) (by omega)]; omega
  have ef := edgeZ ht (x := ((e.length - 1 : Nat) : Int)) (by omega) (by omega) true
  have el := edgeZ ht (x := ((e.length - 1 : Nat) : Int)) (by omega) (by omega) false
  rw [Int.toNat_natCast] at ef el
  simp only [if_true, Bool.false_eq_true, if_false] at ef el
  unfold spec_ReNfa
  rw [specReOk_eq, ht, Option.bind_some, bnd_eq, l1Rg, decide_eq_true (by omega), if_neg (by simp), r1, r2, Option.bind_some]
  show spec_ReNfa.k0 40 e (L : Int) 0 0 0 [] 0 (numsN e e.length) (0 :: letsN e) = _
  unfold spec_ReNfa.k0
  rw [hlen, if_neg (by omega), mk_ok (by omega) (by omega), Option.bind_some, Int.toNat_natCast, w, ef, Option.bind_some, show ck 0 (List.replicate (ltN e e.length + 1) (0 : Int)).length = some 0 from ck_nat (k := 0) (by simp), Option.bind_some]
  have hz : (List.replicate (ltN e e.length + 1) (0 : Int)).set 0 (((G e (e.length - 1)).first : Nat) : Int) = LR (ltN e e.length + 1) (FI e 0) := by
    apply List.ext_getElem?
    intro i
    unfold LR FI
    by_cases c : i = 0
    · subst c; simp
    · rw [List.getElem?_set_ne (fun g => c g.symm)]
      by_cases d : i < ltN e e.length + 1
      · simp [d, c, behI]
      · simp [d]
  rw [hz, node_loop ht (m := ltN e e.length + 1) (by omega) _ hlen, Option.bind_some]
  unfold spec_ReNfa.k1
  have hfl : LR (ltN e e.length + 1) (FI e e.length) = LR (ltN e e.length + 1) (flw e) := LR_congr fun q _ => flw_FI ht q
  rw [hfl, rows_loop ht, Option.bind_some]
  unfold spec_ReNfa.k2
  rw [hlen, s1, Option.bind_some, if_neg (by simp), w, el, Option.bind_some]
  have hnull : spec_ReNull 40 e = some (G e (e.length - 1)).null := by
    unfold spec_ReNull
    rw [specReOk_eq, ht, Option.bind_some, whenO_t, w, nullG_eq hn (e.length - 1) 40 (by omega) (by omega), Option.bind_some, Bool.true_and]
  rw [hnull, Option.bind_some]
  unfold finN
  have hg := G_ok hn (e.length - 1) (by omega)
  rw [show e.length - 1 + 1 = e.length by omega] at hg
  have hgl := hg.l
  have p17 : 2 ^ (ltN e e.length + 1) ≤ 2 ^ 17 := Nat.pow_le_pow_right (by omega) (by omega)
  by_cases c : (G e (e.length - 1)).null = true
  · rw [if_pos c, if_pos c]
    have ho : bOr .i64 (((G e (e.length - 1)).last : Nat) : Int) 1 = (((G e (e.length - 1)).last ||| 1 : Nat) : Int) := bOr_i (b := 1) (by omega) (by omega)
    rw [ho]
  · rw [if_neg c, if_neg c]
end Go.Proofs.Ythdoebgikbfndaa
end

/- Edges put in order by the program. -/
section
namespace Go.Proofs.Ythdoebgikbfndaa
open Go Go.RowKit E
set_option linter.unusedVariables false

theorem ordered_eq {l s : List TEdge} (hs : s.Pairwise fun a b => edgeLt a b = true) (hp : s.Perm l) (hl : l.length ≤ 100000) : impl_ordered l = some s := by
  unfold impl_ordered
  have hc : slices_Clone_impl_Edge_impl_Edge l = some l := by
    unfold slices_Clone_impl_Edge_impl_Edge
    by_cases c : l = []
    · rw [if_pos c, c]
    · rw [if_neg c, app_small (by simp; omega) (by omega)]; rfl
  rw [hc, Option.bind_some, sortE_eq hs hp (by omega), Option.bind_some]
  have hls : s.length = l.length := hp.length_eq
  have h := loop_up (body := fun q : List TEdge × Int => impl_ordered.b0 s q.1 q.2) s.length (fun k => (s.take k, (k : Int))) s (fun k hk => by
      dsimp only
      unfold impl_ordered.b0
      have ht : s.take (k + 1) = s.take k ++ [s[k]] := List.take_succ_eq_append_getElem hk
      have hd : s.getD k default = s[k] := by simp [List.getD_eq_getElem?_getD, hk]
      have hlen : (s.take k).length = k := by simp; omega
      rw [if_pos (by omega), ix_nat hk, Option.bind_some, hlen, ht, hd, WN (by omega)]
      have fin : (app 32 (s.take k) [s[k]]).bind (fun z48 => some (.inl (z48, ((k + 1 : Nat) : Int)))) = (some (.inl (s.take k ++ [s[k]], ((k + 1 : Nat) : Int))) : Option ((List TEdge × Int) ⊕ List TEdge)) := by
        rw [app_small (by simp; omega) (by omega), Option.bind_some]
      by_cases c : k = 0
      · subst c
        have w : W (((0 : Nat) : Int) - 1) = -1 := by decide
        rw [w, bnd_eq, decide_eq_false (by omega), whenO_f, Option.bind_some, whenO_f, Option.bind_some, Bool.false_and, if_neg (by simp)]
        exact fin
      · have w : W ((k : Int) - 1) = ((k - 1 : Nat) : Int) := by rw [W, W_eq (by omega) (by omega)]; omega
        have hg : (s.take k).getD (k - 1) default = s[k - 1] := by
          rw [List.getD_eq_getElem?_getD, List.getElem?_take_of_lt (by omega), List.getElem?_eq_getElem (by omega)]; rfl
        obtain ⟨x, x1, x2⟩ := cmpE_lt s[k - 1] s[k]
        have hlt : edgeLt s[k - 1] s[k] = true := (List.pairwise_iff_getElem.mp hs) (k - 1) k (by omega) hk (by omega)
        have hx := x2.mpr hlt
        rw [w, bnd_eq, decide_eq_true (by omega), whenO_t, ix_nat (by omega), Option.bind_some, hg, whenO_t, x1, Option.bind_some, Bool.true_and, decide_eq_false (by omega), if_neg (by simp)]
        exact fin) (by
      dsimp only; unfold impl_ordered.b0; rw [if_neg (by omega), List.take_length]) 0 (Nat.zero_le _)
  have h2 : loop (fun q : List TEdge × Int => impl_ordered.b0 s q.1 q.2) ([], 0) = some s := by
    have e0 : s.take 0 = [] := rfl
    rw [e0] at h; exact h
  rw [h2]; rfl
end Go.Proofs.Ythdoebgikbfndaa
end

/- What a right automaton is. -/
section
namespace Go.Proofs.Ythdoebgikbfndaa
open Go Go.RowKit E
set_option linter.unusedVariables false

/-- What a right automaton is. -/
structure AOk (a : TAuto) : Prop where
  lets : 1 ≤ a.letters ∧ a.letters ≤ 8
  sts : 0 ≤ a.states ∧ a.states ≤ 31
  start : 0 ≤ a.start ∧ a.start < ((2 ^ a.states.toNat : Nat) : Int)
  num : a.edges.length ≤ 2000
  edge : ∀ e ∈ a.edges, (0 ≤ e.from_ ∧ e.from_ < a.states) ∧ (0 ≤ e.to_ ∧ e.to_ < a.states) ∧ (0 ≤ e.letter ∧ e.letter < a.letters)
theorem autoOk_A {a : TAuto} (h : autoOk a = true) : AOk a := by
  obtain ⟨h1, h2⟩ := autoOk_t h
  obtain ⟨g1, g2, g3, g4⟩ := headOk_t h1
  refine ⟨g1, g2, g3, g4, fun e he => ?_⟩
  obtain ⟨k, hk, rfl⟩ := List.getElem_of_mem he
  unfold autoOk at h
  rw [Bool.and_eq_true] at h
  have := List.all_eq_true.mp h.2 k (List.mem_range.mpr hk)
  unfold edgeOk at this
  simp only [Bool.and_eq_true, decide_eq_true_eq] at this
  have e1 : a.edges.getD k default = a.edges[k] := by simp [List.getD_eq_getElem?_getD, hk]
  rw [e1] at this
  omega
end Go.Proofs.Ythdoebgikbfndaa
end

/- The automaton of a regex, by the program. -/
section
namespace Go.Proofs.Ythdoebgikbfndaa
open Go Go.RowKit E
set_option linter.unusedVariables false

theorem gT_beh (e : List TNode) (q : Nat) : (gT (G e (e.length - 1))).behind (q + 1) = ((flw e (q + 1) : Nat) : Int) := by
  unfold gT flw
  rw [if_neg (by omega)]
theorem gT_first (e : List TNode) : (gT (G e (e.length - 1))).first = ((flw e 0 : Nat) : Int) := by
  unfold gT flw
  rw [if_pos rfl]
theorem flw_lt {e : List TNode} (ht : treeOk reP e = true) (q : Nat) : flw e q < 1073741824 := by
  have hF := FI_lt ht (Nat.le_refl _) q
  rw [flw_FI ht] at hF
  have p : (2 : Nat) ^ 30 = 1073741824 := rfl
  omega
theorem add_eq {e : List TNode} (ht : treeOk reP e = true) {q t : Nat} (htt : t < ltN e e.length) (a b c f : Int) (acc : List TEdge) (ha : acc.length ≤ 100000) :
    impl_nfaOf_1 (q : Int) (W ((t : Int) + 1)) ⟨⟨a, b, c, acc⟩, f⟩ (letsN e) = some (⟨⟨a, b, c, acc ++ [ed e q (t + 1)]⟩, f⟩, letsN e) := by
  have hl := few_letters ht
  unfold impl_nfaOf_1
  have w1 : W ((t : Int) + 1) = ((t + 1 : Nat) : Int) := WN (by omega)
  have w2 : W (((t + 1 : Nat) : Int) - 1) = (t : Int) := by rw [W, W_eq (by omega) (by omega)]; omega
  rw [w1, w2, lets_ix htt, Option.bind_some]
  dsimp only
  rw [app_small (by simp; omega) (by omega), Option.bind_some]
  rfl
theorem col_loop {e : List TNode} (ht : treeOk reP e = true) {t : Nat} (htt : t < ltN e e.length) (a b c f : Int) (acc : List TEdge) (ha : acc.length ≤ 50000) :
    loop (fun s : List Int × Int × Int × Int × List TEdge × Int × Int => impl_nfaOf.b1 (letsN e) (gT (G e (e.length - 1)), letsN e) (t : Int) s.1 s.2.1 s.2.2.1 s.2.2.2.1 s.2.2.2.2.1 s.2.2.2.2.2.1 s.2.2.2.2.2.2) (letsN e, a, b, c, acc, f, 0)
      = some (letsN e, a, b, c, acc ++ colT e t (ltN e e.length), f) := by
  have hl := few_letters ht
  have hlen := lets_len e
  have h := loop_up (body := fun s : List Int × Int × Int × Int × List TEdge × Int × Int => impl_nfaOf.b1 (letsN e) (gT (G e (e.length - 1)), letsN e) (t : Int) s.1 s.2.1 s.2.2.1 s.2.2.2.1 s.2.2.2.2.1 s.2.2.2.2.2.1 s.2.2.2.2.2.2) (ltN e e.length) (fun k => (letsN e, a, b, c, acc ++ colT e t k, f, (k : Int))) (letsN e, a, b, c, acc ++ colT e t (ltN e e.length), f) (fun k hk => by
      have hr := colT_len e t k
      have hf := flw_lt ht (k + 1)
      have w1 : W ((k : Int) + 1) = ((k + 1 : Nat) : Int) := WN (by omega)
      have w2 : W ((t : Int) + 1) = ((t + 1 : Nat) : Int) := WN (by omega)
      have hadd := add_eq ht (q := k + 1) htt a b c f (acc ++ colT e t k) (by rw [List.length_append]; omega)
      rw [w2] at hadd
      dsimp only
      unfold impl_nfaOf.b1
      rw [if_pos (by rw [hlen]; omega), w1, ck_nat (by omega), Option.bind_some, w2, gT_beh, has_any (by omega) (by omega), colT_succ]
      by_cases g : (flw e (k + 1)).testBit (t + 1) = true
      · rw [if_pos g, if_pos g, hadd, Option.bind_some, List.append_assoc]
      · rw [if_neg g, if_neg g]) (by dsimp only; unfold impl_nfaOf.b1; rw [if_neg (by rw [hlen]; omega)]) 0 (Nat.zero_le _)
  have e0 : acc ++ colT e t 0 = acc := by simp [colT]
  rw [e0] at h
  exact h
theorem cols_loop {e : List TNode} (ht : treeOk reP e = true) (a b c f : Int) :
    loop (fun s : List Int × Int × Int × Int × List TEdge × Int × Int => impl_nfaOf.b0 (gT (G e (e.length - 1)), letsN e) s.1 s.2.1 s.2.2.1 s.2.2.2.1 s.2.2.2.2.1 s.2.2.2.2.2.1 s.2.2.2.2.2.2) (letsN e, a, b, c, [], f, 0)
      = some (a, b, c, edgesI e (ltN e e.length) (ltN e e.length), f) := by
  have hl := few_letters ht
  have hlen := lets_len e
  have h := loop_up (body := fun s : List Int × Int × Int × Int × List TEdge × Int × Int => impl_nfaOf.b0 (gT (G e (e.length - 1)), letsN e) s.1 s.2.1 s.2.2.1 s.2.2.2.1 s.2.2.2.2.1 s.2.2.2.2.2.1 s.2.2.2.2.2.2) (ltN e e.length) (fun k => (letsN e, a, b, c, edgesI e (ltN e e.length) k, f, (k : Int))) (a, b, c, edgesI e (ltN e e.length) (ltN e e.length), f) (fun k hk => by
      have hr := edgesI_len e (ltN e e.length) k
      have hb : k * (ltN e e.length + 1) ≤ 16 * 17 := Nat.mul_le_mul (by omega) (by omega)
      have hf := flw_lt ht 0
      have w2 : W ((k : Int) + 1) = ((k + 1 : Nat) : Int) := WN (by omega)
      have tail : ∀ acc : List TEdge, acc.length ≤ 50000 → impl_nfaOf.k3 (gT (G e (e.length - 1)), letsN e) (k : Int) (letsN e) a b c acc f = some (.inl (letsN e, a, b, c, acc ++ colT e k (ltN e e.length), f, ((k + 1 : Nat) : Int))) := fun acc ha => by
        unfold impl_nfaOf.k3
        rw [col_loop ht hk a b c f acc ha, Option.bind_some]
        unfold impl_nfaOf.k2
        rw [w2]
      have hadd := add_eq ht (q := 0) hk a b c f (edgesI e (ltN e e.length) k) (by omega)
      rw [w2] at hadd
      dsimp only
      unfold impl_nfaOf.b0
      rw [if_pos (by rw [hlen]; omega), w2]
      dsimp only
      rw [gT_first, has_any (by omega) (by omega), edgesI_succ]
      unfold colI
      by_cases g : (flw e 0).testBit (k + 1) = true
      · rw [if_pos g, if_pos g]
        have h0 : impl_nfaOf_1 0 (((k + 1 : Nat) : Int)) ⟨⟨a, b, c, edgesI e (ltN e e.length) k⟩, f⟩ (letsN e) = _ := hadd
        rw [h0, Option.bind_some]
        have := tail (edgesI e (ltN e e.length) k ++ [ed e 0 (k + 1)]) (by rw [List.length_append, List.length_singleton]; omega)
        dsimp only
        rw [this, List.append_assoc]
      · rw [if_neg g, if_neg g, tail _ (by omega), List.nil_append]) (by dsimp only; unfold impl_nfaOf.b0; rw [if_neg (by rw [hlen]; omega)]) 0 (Nat.zero_le _)
  exact h
theorem nfaOf_eq {e : List TNode} (ht : treeOk reP e = true) (L : Int) {s : List TEdge} (hp : s.Perm (edgesS e (ltN e e.length) (ltN e e.length + 1))) (hs : s.Pairwise fun a b => edgeLt a b = true) : impl_nfaOf e L = some ⟨⟨L, ((ltN e e.length + 1 : Nat) : Int), 1, s⟩, (finN e : Nat)⟩ := by
  have hn := treeOk_nodes ht
  have h1 := hn.1
  have hl := few_letters ht
  have hlen := lets_len e
  have hI := edgesI_len e (ltN e e.length) (ltN e e.length)
  have hb : ltN e e.length * (ltN e e.length + 1) ≤ 16 * 17 := Nat.mul_le_mul (by omega) (by omega)
  have hord := ordered_eq hs (hp.trans (edges_perm e (ltN e e.length))) (by omega)
  have hg := G_ok hn (e.length - 1) (by omega)
  rw [show e.length - 1 + 1 = e.length by omega] at hg
  have hgl := hg.l
  have p17 : 2 ^ (ltN e e.length + 1) ≤ 2 ^ 17 := Nat.pow_le_pow_right (by omega) (by omega)
  have w : W (1 + (((letsN e).length : Nat) : Int)) = ((ltN e e.length + 1 : Nat) : Int) := by rw [hlen, W, W_eq (by omega) (by omega)]; omega
  have tail : ∀ f : Int, f = ((finN e : Nat) : Int) → impl_nfaOf.k0 (gT (G e (e.length - 1)), letsN e) L ((ltN e e.length + 1 : Nat) : Int) 1 [] f = some ⟨⟨L, ((ltN e e.length + 1 : Nat) : Int), 1, s⟩, (finN e : Nat)⟩ := fun f hf => by
    subst hf
    unfold impl_nfaOf.k0
    rw [cols_loop ht, Option.bind_some]
    unfold impl_nfaOf.k1
    rw [hord]; rfl
  unfold impl_nfaOf
  rw [glanceOf_eq hn (by omega), Option.bind_some]
  dsimp only
  rw [w]
  have en : (gT (G e (e.length - 1))).null = (G e (e.length - 1)).null := rfl
  have el : (gT (G e (e.length - 1))).last = (((G e (e.length - 1)).last : Nat) : Int) := rfl
  rw [en, el]
  by_cases c : (G e (e.length - 1)).null = true
  · rw [if_pos c]
    have ho : bOr .i64 (((G e (e.length - 1)).last : Nat) : Int) 1 = (((G e (e.length - 1)).last ||| 1 : Nat) : Int) := bOr_i (b := 1) (by omega) (by omega)
    exact tail _ (by rw [ho]; unfold finN; rw [if_pos c])
  · rw [if_neg c]
    exact tail _ (by unfold finN; rw [if_neg c])
theorem ed_good {e : List TNode} {n k : Nat} : ∀ x ∈ edgesS e n k, x.good = false := fun x hx => by
  obtain ⟨q, r, _, _, _, rfl⟩ := mem_S.mp hx; rfl
theorem edges_ok {e : List TNode} (ht : treeOk reP e = true) {L : Nat} (bL : 1 ≤ L ∧ L ≤ 8) (hb : hasBad e (L : Int) = false) {s : List TEdge} (hp : s.Perm (edgesS e (ltN e e.length) (ltN e e.length + 1))) (hs : s.Pairwise fun a b => edgeLt a b = true) : autoOk ⟨(L : Int), ((ltN e e.length + 1 : Nat) : Int), 1, s⟩ = true := by
  have hl := few_letters ht
  have hE := edges_EE ht hb
  have hlen := edgesS_len e (ltN e e.length) (ltN e e.length + 1)
  have hbE : (ltN e e.length + 1) * ltN e e.length ≤ 17 * 16 := Nat.mul_le_mul (by omega) hl
  have hsl := hp.length_eq
  have p2 : 2 ≤ 2 ^ (ltN e e.length + 1) := Nat.pow_le_pow_right (n := 2) (by omega) (by omega : 1 ≤ ltN e e.length + 1)
  unfold autoOk
  rw [Bool.and_eq_true]
  refine ⟨?_, List.all_eq_true.mpr fun k hk => ?_⟩
  · unfold headOk
    simp only [Bool.and_eq_true, decide_eq_true_eq, Int.toNat_natCast]
    omega
  · rw [List.mem_range] at hk
    simp only at hk
    have e1 : s.getD k default = s[k] := by simp [List.getD_eq_getElem?_getD, hk]
    have hm := hE _ (hp.mem_iff.mp (List.getElem_mem hk))
    have hf := hm.f; have hlt := hm.l; have htt := hm.t
    unfold edgeOk
    simp only [Bool.and_eq_true, Bool.or_eq_true, decide_eq_true_eq]
    rw [e1]
    refine ⟨⟨⟨by omega, by omega⟩, by omega⟩, ?_⟩
    by_cases c : k = 0
    · exact .inl c
    · right
      have e2 : s.getD (k - 1) default = s[k - 1] := by rw [List.getD_eq_getElem?_getD, List.getElem?_eq_getElem (by omega)]; rfl
      rw [e2]
      exact (List.pairwise_iff_getElem.mp hs) (k - 1) k (by omega) hk (by omega)
theorem nfaOk_good {a : TAuto} {f : Nat} (ha : autoOk a = true) (hg : ∀ x ∈ a.edges, x.good = false) (hf : f < 2 ^ a.states.toNat) : impl_NfaOk ⟨a, (f : Int)⟩ = some true := by
  have h := autoOk_A ha
  have hnum := h.num
  have hst := h.sts
  have p31 : 2 ^ a.states.toNat ≤ 2 ^ 31 := Nat.pow_le_pow_right (by omega) (by omega)
  have p : (2 : Nat) ^ 31 = 2147483648 := rfl
  unfold impl_NfaOk
  have hl := all_loop (body := fun s : Int => impl_NfaOk.b0 ⟨a, (f : Int)⟩ s) a.edges.length (fun _ => true) (fun k hk => by
    have hd : a.edges.getD k default = a.edges[k] := by simp [List.getD_eq_getElem?_getD, hk]
    have := hg _ (List.getElem_mem hk)
    unfold impl_NfaOk.b0
    dsimp only
    rw [if_pos (by omega), ix_nat hk, Option.bind_some, hd, this, if_neg (by simp), WN (by omega)]; rfl) (by unfold impl_NfaOk.b0; dsimp only; rw [if_neg (by omega)])
  rw [hl, if_pos (by simp), Option.bind_some]
  show impl_NfaOk.k0 ⟨a, (f : Int)⟩ = _
  unfold impl_NfaOk.k0
  dsimp only
  rw [implAutoOk_eq, ha, Option.bind_some, bnd_eq]
  have ho := only_eq (n := a.states.toNat) (by omega)
  rw [show ((a.states.toNat : Nat) : Int) = a.states by omega] at ho
  unfold impl_SetOk
  rw [inRg, ho, decide_eq_true (by omega), decide_eq_true (by omega)]; rfl
/-- The program's look at the letters. -/
theorem bad_loop {e : List TNode} (h31 : e.length ≤ 31) (l : Int) : loop (fun s : Int × Int × Int × List TEdge × Int × Int => impl_ReNfa.b0 e l s.1 s.2.1 s.2.2.1 s.2.2.2.1 s.2.2.2.2.1 s.2.2.2.2.2) (0, 0, 0, [], 0, 0) =
    some (if hasBad e l = true then .inr (⟨⟨0, 0, 0, []⟩, 0⟩, false) else .inl (0, 0, 0, [], 0)) := by
  have step : ∀ k, k < e.length → impl_ReNfa.b0 e l 0 0 0 [] 0 (k : Int) = if badL e l k = true then some (.inr (.inr (⟨⟨0, 0, 0, []⟩, 0⟩, false))) else some (.inl (0, 0, 0, [], 0, ((k + 1 : Nat) : Int))) := fun k hk => by
    unfold impl_ReNfa.b0 badL
    rw [if_pos (by omega), ix_nat hk, Option.bind_some, bnd_eq, WN (by omega)]
  have run : ∀ k, k ≤ e.length → (∀ j, j < k → badL e l j = false) → loop (fun s : Int × Int × Int × List TEdge × Int × Int => impl_ReNfa.b0 e l s.1 s.2.1 s.2.2.1 s.2.2.2.1 s.2.2.2.2.1 s.2.2.2.2.2) (0, 0, 0, [], 0, 0)
      = loop (fun s : Int × Int × Int × List TEdge × Int × Int => impl_ReNfa.b0 e l s.1 s.2.1 s.2.2.1 s.2.2.2.1 s.2.2.2.2.1 s.2.2.2.2.2) (0, 0, 0, [], 0, (k : Int)) := fun k hk hg =>
    loop_to (fun k => (0, 0, 0, [], 0, (k : Int))) k fun j hj => by
      have := step j (by omega)
      rw [hg j hj, if_neg (by simp)] at this
      exact this
  by_cases hb : hasBad e l = true
  · obtain ⟨k, h1, h2, h3⟩ := hasBad_t hb
    rw [if_pos hb, run k (by omega) h3]
    exact loop_end (by have := step k h1; rw [if_pos h2] at this; exact this)
  · rw [if_neg hb, run e.length (Nat.le_refl _) (fun j hj => hasBad_f (by simpa using hb) j hj)]
    exact loop_end (by dsimp only; unfold impl_ReNfa.b0; rw [if_neg (by omega)])
/-- Both sides come to the same. -/
theorem reNfa_eq (e : List TNode) (l : Int) : ∃ r : TNfa × Bool, spec_ReNfa 40 e l = some r ∧ impl_ReNfa e l = some r ∧ r.1.auto.edges.length ≤ 2000 := by
  by_cases ht : treeOk reP e = true
  · have hn := treeOk_nodes ht
    have h31 := hn.2.1
    by_cases hl : 1 ≤ l ∧ l ≤ 8
    · by_cases hb : hasBad e l = true
      · obtain ⟨r, r1, r2⟩ := num_loop h31 l
        rw [if_pos hb] at r2
        refine ⟨(⟨⟨0, 0, 0, []⟩, 0⟩, false), ?_, ?_, by simp⟩
        · unfold spec_ReNfa
          rw [specReOk_eq, ht, Option.bind_some, bnd_eq, l1Rg, decide_eq_true hl, if_neg (by simp), r1, r2]; rfl
        · unfold impl_ReNfa impl_isLetters
          rw [inRg, decide_eq_true hl, bnd_eq, Bool.not_true, Bool.not_false, whenO_t, implReOk_eq, ht, Option.bind_some, if_neg (by simp), bad_loop h31, if_pos hb]; rfl
      · rw [Bool.not_eq_true] at hb
        obtain ⟨L, rfl⟩ : ∃ L : Nat, l = L := ⟨l.toNat, by omega⟩
        obtain ⟨s, s1, s2, s3⟩ := specReNfa_good ht (L := L) (by omega) hb
        have hok := edges_ok ht (L := L) (by omega) hb s2 s3
        have hno := nfaOk_good (a := ⟨(L : Int), ((ltN e e.length + 1 : Nat) : Int), 1, s⟩) (f := finN e) hok (fun x hx => ed_good x (s2.mem_iff.mp hx)) (finN_lt ht)
        refine ⟨_, s1, ?_, (autoOk_A hok).num⟩
        unfold impl_ReNfa impl_isLetters
        rw [inRg, decide_eq_true hl, bnd_eq, Bool.not_true, Bool.not_false, whenO_t, implReOk_eq, ht, Option.bind_some, if_neg (by simp), bad_loop h31, hb, if_neg (by simp), Option.bind_some]
        show impl_ReNfa.k0 e (L : Int) 0 0 0 [] 0 = _
        unfold impl_ReNfa.k0
        rw [nfaOf_eq ht (L : Int) s2 s3, Option.bind_some]
        change ((impl_NfaOk ⟨⟨(L : Int), ((ltN e e.length + 1 : Nat) : Int), 1, s⟩, ((finN e : Nat) : Int)⟩).bind _) = _
        rw [hno]; rfl
    · refine ⟨(⟨⟨0, 0, 0, []⟩, 0⟩, false), ?_, ?_, by simp⟩
      · unfold spec_ReNfa
        rw [specReOk_eq, ht, Option.bind_some, bnd_eq, l1Rg, decide_eq_false hl, if_pos (by simp)]
      · unfold impl_ReNfa impl_isLetters
        rw [inRg, decide_eq_false hl, bnd_eq, Bool.not_false, Bool.not_true, whenO_f, Option.bind_some, if_pos (by simp)]
  · rw [Bool.not_eq_true] at ht
    refine ⟨(⟨⟨0, 0, 0, []⟩, 0⟩, false), ?_, ?_, by simp⟩
    · unfold spec_ReNfa
      rw [specReOk_eq, ht, Option.bind_some, bnd_eq, if_pos (by simp)]
    · unfold impl_ReNfa
      rw [bnd_eq, implReOk_eq, ht]
      cases (impl_isLetters l) <;> rfl
end Go.Proofs.Ythdoebgikbfndaa
end

/- Automata compared, marked, found marked. -/
section
namespace Go.Proofs.Ythdoebgikbfndaa
open Go Go.RowKit E
set_option linter.unusedVariables false

theorem eqEdge_eq (a b : TEdge) : laws_eqEdge a b = decide (a = b) := by
  unfold laws_eqEdge
  cases a; cases b
  simp only [TEdge.mk.injEq]
  repeat' split
  all_goals simp_all
theorem eqEdgeS_eq (xs ys : List TEdge) (h : xs.length ≤ 1048576) : laws_eqEdgeS xs ys = some (decide (xs = ys)) := by
  unfold laws_eqEdgeS
  split
  · rename_i k; rw [decide_eq_false]; intro e; subst e; exact k rfl
  · rename_i k
    have h1 := eq_loop (fun a b => some (laws_eqEdge a b)) (fun a b => by rw [eqEdge_eq]) xs ys (by omega) (by omega)
    have h2 : loop (fun s : Int => laws_eqEdgeS.b0 xs ys s) 0 = some (if xs = ys then (.inl () : Unit ⊕ Bool) else .inr false) := h1
    rw [h2, Option.bind_some]
    by_cases e : xs = ys
    · rw [if_pos e]; simp [e, laws_eqEdgeS.k0]
    · rw [if_neg e]; simp [e]
theorem eqAuto_eq (a : TAuto) (h : a.edges.length ≤ 1048576) : laws_eqAuto a a = some true := by
  unfold laws_eqAuto
  rw [if_neg (by simp), if_neg (by simp), if_neg (by simp), eqEdgeS_eq _ _ h, Option.bind_some]
  simp
def markEL (c : Nat) : List TEdge → List TEdge
  | [] => []
  | _ :: r => TEdge.mk (c : Int) ((c : Int) + 1) ((c : Int) + 2) (decide (Int.tmod ((c : Int) + 3) 3 = 0)) :: markEL (c + 4) r
theorem markE_loop : ∀ (r pre : List TEdge) (c : Nat), c + 4 * r.length ≤ 1000000000 → pre.length + r.length ≤ 1000000000 → loop (fun s : List TEdge × Int × Int => laws_markEdgeS.b0 s.1 s.2.1 s.2.2) (pre ++ r, (c : Int), (pre.length : Int)) = some (((c + 4 * r.length : Nat) : Int), pre ++ markEL c r)
  | [], pre, c, _, _ => loop_end (by dsimp only; unfold laws_markEdgeS.b0; rw [if_neg (by simp)]; simp [markEL])
  | x :: r, pre, c, h1, h2 => by
    simp only [List.length_cons] at h1 h2
    have w1 : W ((c : Int) + 1) = (c : Int) + 1 := W_eq (by omega) (by omega)
    have w2 : W ((c : Int) + 1 + 1) = (c : Int) + 2 := by rw [W, W_eq (by omega) (by omega)]; omega
    have w3 : W ((c : Int) + 2 + 1) = (c : Int) + 3 := by rw [W, W_eq (by omega) (by omega)]; omega
    have w5 : W ((c : Int) + 3 + 1) = ((c + 4 : Nat) : Int) := by rw [W, W_eq (by omega) (by omega)]; omega
    have w4 : W ((pre.length : Int) + 1) = (((pre ++ [TEdge.mk (c : Int) ((c : Int) + 1) ((c : Int) + 2) (decide (Int.tmod ((c : Int) + 3) 3 = 0))]).length : Nat) : Int) := by rw [W, W_eq (by omega) (by omega)]; simp
    have ih := markE_loop r (pre ++ [TEdge.mk (c : Int) ((c : Int) + 1) ((c : Int) + 2) (decide (Int.tmod ((c : Int) + 3) 3 = 0))]) (c + 4) (by omega) (by simp; omega)
    rw [loop_go (s' := (pre ++ TEdge.mk (c : Int) ((c : Int) + 1) ((c : Int) + 2) (decide (Int.tmod ((c : Int) + 3) 3 = 0)) :: r, ((c + 4 : Nat) : Int), (((pre ++ [TEdge.mk (c : Int) ((c : Int) + 1) ((c : Int) + 2) (decide (Int.tmod ((c : Int) + 3) 3 = 0))]).length : Nat) : Int)))]
    · rw [List.append_assoc, List.singleton_append] at ih
      rw [ih]
      simp only [List.length_cons, markEL, List.append_assoc, List.singleton_append]
      rw [show c + 4 + 4 * r.length = c + 4 * (r.length + 1) by omega]
    · dsimp only; unfold laws_markEdgeS.b0
      rw [if_pos (by simp; omega)]
      simp only [ck_mid, Option.bind_some, set_mid, w1, w2, w3, w4, w5]
      simp
theorem markE_from (xs : List TEdge) (c : Nat) (h : xs.length ≤ 2000000) (hc : c ≤ 20000000) : laws_markEdgeS xs (c : Int) = some (((c + 4 * xs.length : Nat) : Int), markEL c xs) := by
  unfold laws_markEdgeS
  have := markE_loop xs [] c (by omega) (by simp; omega)
  simp only [List.nil_append] at this
  have e : loop (fun s : List TEdge × Int × Int => laws_markEdgeS.b0 s.1 s.2.1 s.2.2) (xs, (c : Int), 0) = _ := this
  rw [e]; rfl
theorem markAuto_eq (a : TAuto) (h : a.edges.length ≤ 2000000) : laws_markAuto a 1 = some (((1 + 4 * a.edges.length : Nat) : Int), { a with edges := markEL 1 a.edges }) := by
  unfold laws_markAuto
  have := markE_from a.edges 1 h (by omega)
  rw [show ((1 : Nat) : Int) = 1 from rfl] at this
  rw [this, Option.bind_some]
theorem markEL_len : ∀ (r : List TEdge) (c : Nat), (markEL c r).length = r.length
  | [], c => rfl
  | _ :: r, c => by simp [markEL, markEL_len r]
theorem heldE_loop : ∀ (r pre : List TEdge) (c : Nat), c + 4 * r.length ≤ 1000000000 → pre.length + r.length ≤ 1000000000 → loop (fun s : Int × Int => laws_heldEdgeS.b0 (pre ++ markEL c r) s.1 s.2) ((c : Int), (pre.length : Int)) = some (.inl ((c + 4 * r.length : Nat) : Int))
  | [], pre, c, _, _ => loop_end (by dsimp only; unfold laws_heldEdgeS.b0; rw [if_neg (by simp [markEL])]; simp)
  | x :: r, pre, c, h1, h2 => by
    simp only [List.length_cons] at h1 h2
    have w1 : W ((c : Int) + 1) = (c : Int) + 1 := W_eq (by omega) (by omega)
    have w2 : W ((c : Int) + 1 + 1) = (c : Int) + 2 := by rw [W, W_eq (by omega) (by omega)]; omega
    have w3 : W ((c : Int) + 2 + 1) = (c : Int) + 3 := by rw [W, W_eq (by omega) (by omega)]; omega
    have w5 : W ((c : Int) + 3 + 1) = ((c + 4 : Nat) : Int) := by rw [W, W_eq (by omega) (by omega)]; omega
    have w4 : W ((pre.length : Int) + 1) = (((pre ++ [TEdge.mk (c : Int) ((c : Int) + 1) ((c : Int) + 2) (decide (Int.tmod ((c : Int) + 3) 3 = 0))]).length : Nat) : Int) := by rw [W, W_eq (by omega) (by omega)]; simp
    have ih := heldE_loop r (pre ++ [TEdge.mk (c : Int) ((c : Int) + 1) ((c : Int) + 2) (decide (Int.tmod ((c : Int) + 3) 3 = 0))]) (c + 4) (by omega) (by simp; omega)
    rw [List.append_assoc, List.singleton_append] at ih
    unfold markEL
    rw [loop_go (s' := (((c + 4 : Nat) : Int), (((pre ++ [TEdge.mk (c : Int) ((c : Int) + 1) ((c : Int) + 2) (decide (Int.tmod ((c : Int) + 3) 3 = 0))]).length : Nat) : Int)))]
    · rw [ih, List.length_cons, show c + 4 + 4 * r.length = c + 4 * (r.length + 1) by omega]
    · dsimp only; unfold laws_heldEdgeS.b0
      rw [if_pos (by simp; omega)]
      simp only [ix_mid, Option.bind_some, w1, w2, w3, w4, w5]
      simp
theorem heldE_eq (xs : List TEdge) (h : xs.length ≤ 2000000) : laws_heldEdgeS (markEL 1 xs) 1 = some ((1 + 4 * xs.length : Nat) : Int) := by
  unfold laws_heldEdgeS
  have := heldE_loop xs [] 1 (by omega) (by simp; omega)
  simp only [List.nil_append] at this
  have e : loop (fun s : Int × Int => laws_heldEdgeS.b0 (markEL 1 xs) s.1 s.2) (1, 0) = _ := this
  rw [e]; rfl
theorem heldAuto_eq (a : TAuto) (h : a.edges.length ≤ 2000000) : laws_heldAuto { a with edges := markEL 1 a.edges } 1 = some ((1 + 4 * a.edges.length : Nat) : Int) := by
  unfold laws_heldAuto
  dsimp only
  rw [heldE_eq _ h, Option.bind_some, if_neg (by omega)]
end Go.Proofs.Ythdoebgikbfndaa
end

/- Lists of nodes: copied as they are, held against each other. -/
section
namespace Go.Proofs.Ythdoebgikbfndaa
open Go Go.RowKit E
set_option linter.unusedVariables false

theorem toNodeS_eq (xs : List TNode) (h : xs.length ≤ 1048576) : laws_toNodeS xs = some xs := by
  unfold laws_toNodeS
  rw [mk_ok (by omega) (by omega), Option.bind_some, Int.toNat_natCast]
  have h1 := copy_loop (fun a => some (laws_toNode a)) laws_toNode (fun _ => rfl) (TNode.mk 0 0 0) xs (by omega)
  have h2 : loop (fun s : List TNode × Int => laws_toNodeS.b0 xs s.1 s.2) (List.replicate xs.length (TNode.mk 0 0 0), 0) = some (xs.map laws_toNode) := h1
  rw [h2, Option.bind_some]
  have : xs.map laws_toNode = xs := by
    have : laws_toNode = id := rfl
    rw [this]; simp
  rw [this]; rfl
theorem eqNode_eq (a b : TNode) : laws_eqNode a b = decide (a = b) := by
  unfold laws_eqNode
  cases a; cases b
  simp only [TNode.mk.injEq]
  split
  · simp_all
  · split
    · simp_all
    · split <;> simp_all
theorem eqNodeS_eq (xs ys : List TNode) (h : xs.length ≤ 1048576) : laws_eqNodeS xs ys = some (decide (xs = ys)) := by
  unfold laws_eqNodeS
  split
  · rename_i k; rw [decide_eq_false]; intro e; subst e; exact k rfl
  · rename_i k
    have h1 := eq_loop (fun a b => some (laws_eqNode a b)) (fun a b => by rw [eqNode_eq]) xs ys (by omega) (by omega)
    have h2 : loop (fun s : Int => laws_eqNodeS.b0 xs ys s) 0 = some (if xs = ys then (.inl () : Unit ⊕ Bool) else .inr false) := h1
    rw [h2, Option.bind_some]
    by_cases e : xs = ys
    · rw [if_pos e]; simp [e, laws_eqNodeS.k0]
    · rw [if_neg e]; simp [e]
end Go.Proofs.Ythdoebgikbfndaa
end

/- Nodes marked. -/
section
namespace Go.Proofs.Ythdoebgikbfndaa
open Go Go.RowKit E
set_option linter.unusedVariables false

def markL (c : Nat) : List TNode → List TNode
  | [] => []
  | _ :: r => TNode.mk (c : Int) ((c : Int) + 1) ((c : Int) + 2) :: markL (c + 3) r
theorem markL_len : ∀ (r : List TNode) (c : Nat), (markL c r).length = r.length
  | [], c => rfl
  | _ :: r, c => by simp [markL, markL_len r]
theorem mark_loop : ∀ (r pre : List TNode) (c : Nat), c + 3 * r.length ≤ 1000000000 → pre.length + r.length ≤ 1000000000 → loop (fun s : List TNode × Int × Int => laws_markNodeS.b0 s.1 s.2.1 s.2.2) (pre ++ r, (c : Int), (pre.length : Int)) = some (((c + 3 * r.length : Nat) : Int), pre ++ markL c r)
  | [], pre, c, _, _ => loop_end (by dsimp only; unfold laws_markNodeS.b0; rw [if_neg (by simp)]; simp [markL])
  | x :: r, pre, c, h1, h2 => by
    simp only [List.length_cons] at h1 h2
    have w1 : W ((c : Int) + 1) = (c : Int) + 1 := W_eq (by omega) (by omega)
    have w2 : W ((c : Int) + 1 + 1) = (c : Int) + 2 := by rw [W, W_eq (by omega) (by omega)]; omega
    have w3 : W ((c : Int) + 2 + 1) = ((c + 3 : Nat) : Int) := by rw [W, W_eq (by omega) (by omega)]; omega
    have w4 : W ((pre.length : Int) + 1) = (((pre ++ [TNode.mk (c : Int) ((c : Int) + 1) ((c : Int) + 2)]).length : Nat) : Int) := by rw [W, W_eq (by omega) (by omega)]; simp
    have ih := mark_loop r (pre ++ [TNode.mk (c : Int) ((c : Int) + 1) ((c : Int) + 2)]) (c + 3) (by omega) (by simp; omega)
    rw [loop_go (s' := (pre ++ TNode.mk (c : Int) ((c : Int) + 1) ((c : Int) + 2) :: r, ((c + 3 : Nat) : Int), (((pre ++ [TNode.mk (c : Int) ((c : Int) + 1) ((c : Int) + 2)]).length : Nat) : Int)))]
    · rw [List.append_assoc, List.singleton_append] at ih
      rw [ih]
      simp only [List.length_cons, markL, List.append_assoc, List.singleton_append]
      rw [show c + 3 + 3 * r.length = c + 3 * (r.length + 1) by omega]
    · dsimp only; unfold laws_markNodeS.b0
      rw [if_pos (by simp; omega)]
      simp only [ck_mid, Option.bind_some, set_mid, w1, w2, w3, w4]
      simp
theorem mark_from (xs : List TNode) (c : Nat) (h : xs.length ≤ 2000000) (hc : c ≤ 20000000) : laws_markNodeS xs (c : Int) = some (((c + 3 * xs.length : Nat) : Int), markL c xs) := by
  unfold laws_markNodeS
  have := mark_loop xs [] c (by omega) (by simp; omega)
  simp only [List.nil_append] at this
  have e : loop (fun s : List TNode × Int × Int => laws_markNodeS.b0 s.1 s.2.1 s.2.2) (xs, (c : Int), 0) = _ := this
  rw [e]; rfl
theorem mark_eq (xs : List TNode) (h : xs.length ≤ 2000000) : laws_markNodeS xs 1 = some (((1 + 3 * xs.length : Nat) : Int), markL 1 xs) := mark_from xs 1 h (by omega)
end Go.Proofs.Ythdoebgikbfndaa
end

/- Places of the nodes of time. -/
section
namespace Go.Proofs.Ythdoebgikbfndaa
open Go Go.RowKit E
set_option linter.unusedVariables false

def tempL : Nat → List TNode → List Int
  | _, [] => []
  | k, n :: r => if n.kind ≥ 7 then (k : Int) :: tempL (k + 1) r else tempL (k + 1) r
theorem tempL_len : ∀ (r : List TNode) (k : Nat), (tempL k r).length ≤ r.length
  | [], _ => Nat.le_refl _
  | n :: r, k => by
    have := tempL_len r (k + 1)
    unfold tempL
    split
    · simp; omega
    · simp; omega
theorem temp_loop {body : List Int × Int → Option ((List Int × Int) ⊕ List Int)} (e : List TNode) (he : e.length ≤ 31) (hb : ∀ y x, body (y, x) = if x < (e.length : Int) then (ix e x).bind fun a => if a.kind ≥ 7 then (app 8 y [x]).bind fun z => some (.inl (z, W (x + 1))) else some (.inl (y, W (x + 1))) else some (.inr y)) : ∀ (r pre : List TNode) (y : List Int), e = pre ++ r → y.length ≤ pre.length → loop body (y, (pre.length : Int)) = some (y ++ tempL pre.length r)
  | [], pre, y, h, hy => loop_end (by rw [hb, if_neg (by rw [h]; simp)]; simp [tempL])
  | n :: r, pre, y, h, hy => by
    have hl : pre.length + (r.length + 1) = e.length := by rw [h]; simp
    have w4 : W ((pre.length : Int) + 1) = (((pre ++ [n]).length : Nat) : Int) := by rw [W, W_eq (by omega) (by omega)]; simp
    have hix : ix e (pre.length : Int) = some n := by rw [h]; exact ix_mid pre n r
    by_cases c : n.kind ≥ 7
    · rw [loop_go (s' := (y ++ [(pre.length : Int)], (((pre ++ [n]).length : Nat) : Int)))]
      · rw [temp_loop e he hb r (pre ++ [n]) _ (by rw [h]; simp) (by simp; omega)]
        simp [tempL, c]
      · rw [hb, if_pos (by omega), hix, Option.bind_some, if_pos c, app_small (by simp; omega) (by omega), Option.bind_some, w4]
    · rw [loop_go (s' := (y, (((pre ++ [n]).length : Nat) : Int)))]
      · rw [temp_loop e he hb r (pre ++ [n]) _ (by rw [h]; simp) (by simp; omega)]
        simp [tempL, c]
      · rw [hb, if_pos (by omega), hix, Option.bind_some, if_neg c, w4]
end Go.Proofs.Ythdoebgikbfndaa
end

/- Places of the nodes of time; nodes that are too many. -/
section
namespace Go.Proofs.Ythdoebgikbfndaa
open Go Go.RowKit E
set_option linter.unusedVariables false

theorem szNodeS_eq (xs : List TNode) (k : Int) (h : xs.length ≤ 9223372036854775807) (hk : 0 ≤ k ∧ k ≤ 1048576) : laws_szNodeS xs k = if (xs.length : Int) ≤ k then k - xs.length else -1 := by
  unfold laws_szNodeS
  rw [W, W_eq (by omega) (by omega)]
  split <;> split <;> omega
end Go.Proofs.Ythdoebgikbfndaa
end

/- The automaton of a regex: the law. -/
section
namespace Go.Proofs.Ythdoebgikbfndaa
open Go Go.RowKit E
set_option linter.unusedVariables false

theorem eqNfa_self (a : TNfa) (h : a.auto.edges.length ≤ 1048576) : laws_eqNfa a a = some true := by
  unfold laws_eqNfa
  rw [eqAuto_eq _ h, Option.bind_some, if_neg (by simp), if_neg (by simp)]
theorem markNfa_eq (a : TNfa) (h : a.auto.edges.length ≤ 2000000) : laws_markNfa a 1 = some (((1 + 4 * a.auto.edges.length : Nat) : Int), ⟨{ a.auto with edges := markEL 1 a.auto.edges }, a.final⟩) := by
  unfold laws_markNfa
  have := markAuto_eq a.auto h
  change ((laws_markAuto a.auto 1).bind _) = _
  rw [this]; rfl
theorem heldNfa_eq (a : TNfa) (h : a.auto.edges.length ≤ 2000000) : laws_heldNfa ⟨{ a.auto with edges := markEL 1 a.auto.edges }, a.final⟩ 1 = some ((1 + 4 * a.auto.edges.length : Nat) : Int) := by
  unfold laws_heldNfa
  dsimp only
  rw [heldAuto_eq _ h, Option.bind_some, if_neg (by omega)]
theorem pureReNfa (e : List TNode) (w : e.length ≤ 9223372036854775807 ∧ ∀ q ∈ e, TNode.wf q) (p : Int) (wp : inI p) : laws_FnExactReNfa 40 e p = some true := by
  unfold laws_FnExactReNfa
  rw [szNodeS_eq e _ w.1 (by omega)]
  by_cases hl : e.length ≤ 1048576
  · rw [if_neg (by rw [if_pos (by omega)]; omega)]
    obtain ⟨⟨g, b⟩, r1, r2, r3⟩ := reNfa_eq e p
    simp only at r3
    have he := eqNfa_self g (by omega)
    have hm := markNfa_eq g (by omega)
    have hh := heldNfa_eq g (by omega)
    simp only [toNodeS_eq e hl, Option.bind_some, r1, r2, he, eqNodeS_eq e e hl, mark_eq e (by omega : e.length ≤ 2000000), hm, hh]
    simp only [bnd_eq, Bool.not_true, beq_self_eq_true, Bool.or_self, Bool.false_eq_true, if_false, Option.bind_some, decide_true]
    rw [show (decide (((1 + 3 * e.length : Nat) : Int) < 0)) = false by simp; omega, Bool.not_false, whenO_t, Option.bind_some]
    have hz : ¬ ((1 + 4 * g.auto.edges.length : Nat) : Int) < 0 := by omega
    simp only [hz, Bool.not_true, Bool.or_self, Bool.false_eq_true, if_false, Option.bind_some, ne_eq, not_true_eq_false]
  · rw [if_pos (by rw [if_neg (by omega)]; omega)]
end Go.Proofs.Ythdoebgikbfndaa
end
