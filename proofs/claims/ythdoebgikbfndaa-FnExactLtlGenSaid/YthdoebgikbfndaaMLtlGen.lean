/- Plain texts of FnExactLtlGen, put together. -/
import Derived.Test.YthdoebgikbfndaaDLtlGen
import Derived.Test.YthdoebgikbfndaaWf
import Derived.Test.YthdoebgikbfndaaQ0
import Derived.Test.YthdoebgikbfndaaQ1
import Derived.Test.YthdoebgikbfndaaTy

/- Trees of nodes: what both ways of telling them find. -/
section
namespace Go.Proofs.Ythdoebgikbfndaa
open Go Go.RowKit E
set_option linter.unusedVariables false

/-- The sizes of the trees of all nodes, one node more. -/
def sizeStep (p : TNode → Int) (ss : List Int) (n : TNode) : Option (List Int) :=
  if p n = 0 then some (ss ++ [1])
  else if p n = 1 then (if 1 ≤ ss.length ∧ n.a = (ss.length : Int) - 1 ∧ n.b = 0 then some (ss ++ [1 + ss.getD (ss.length - 1) 0]) else none)
  else if p n = 2 then (if 1 ≤ ss.length ∧ n.b = (ss.length : Int) - 1 ∧ 0 ≤ (ss.length : Int) - 1 - ss.getD (ss.length - 1) 0 ∧ n.a = (ss.length : Int) - 1 - ss.getD (ss.length - 1) 0 then some (ss ++ [1 + ss.getD (ss.length - 1) 0 + ss.getD n.a.toNat 0]) else none)
  else none
def sizesFrom (p : TNode → Int) : List Int → List TNode → Option (List Int)
  | ss, [] => some ss
  | ss, n :: r => match sizeStep p ss n with
    | some ss' => sizesFrom p ss' r
    | none => none
def treeOk (p : TNode → Int) (e : List TNode) : Bool :=
  decide (1 ≤ e.length ∧ e.length ≤ 31) && match sizesFrom p [] e with
    | some ss => decide (ss.getD (e.length - 1) 0 = (e.length : Int))
    | none => false
/-- What sizes are right: none is below one, and none reaches further than to the first node. -/
def Sized (ss : List Int) : Prop := ∀ i, i < ss.length → 1 ≤ ss.getD i 0 ∧ ss.getD i 0 ≤ (i : Int) + 1
theorem Sized.nil : Sized [] := fun i h => by simp at h
theorem getD_app {ss : List Int} {x : Int} {i : Nat} : (ss ++ [x]).getD i 0 = if i < ss.length then ss.getD i 0 else if i = ss.length then x else 0 := by
  by_cases h : i < ss.length
  · rw [if_pos h]; simp [List.getD, List.getElem?_append_left h]
  · rw [if_neg h]
    by_cases k : i = ss.length
    · subst k; simp
    · rw [if_neg k]; simp [List.getD, List.getElem?_eq_none (by simp; omega : (ss ++ [x]).length ≤ i)]
theorem Sized.snoc {ss : List Int} (h : Sized ss) {x : Int} (h1 : 1 ≤ x) (h2 : x ≤ (ss.length : Int) + 1) : Sized (ss ++ [x]) := by
  intro i hi
  rw [getD_app]
  by_cases k : i < ss.length
  · rw [if_pos k]; exact h i k
  · have : i = ss.length := by simp at hi; omega
    rw [if_neg k, if_pos this]; omega
theorem sizeStep_sized {p : TNode → Int} {ss ss' : List Int} {n : TNode} (h : Sized ss) (hs : sizeStep p ss n = some ss') : Sized ss' ∧ ss'.length = ss.length + 1 := by
  unfold sizeStep at hs
  split at hs
  · cases hs; exact ⟨h.snoc (by omega) (by omega), by simp⟩
  · split at hs
    · split at hs
      · rename_i k; cases hs
        have := h (ss.length - 1) (by omega)
        exact ⟨h.snoc (by omega) (by omega), by simp⟩
      · cases hs
    · split at hs
      · split at hs
        · rename_i k; cases hs
          have h1 := h (ss.length - 1) (by omega)
          have h2 := h n.a.toNat (by omega)
          exact ⟨h.snoc (by omega) (by omega), by simp⟩
        · cases hs
      · cases hs

theorem getL {ss : List Int} {i : Int} (h : 0 ≤ i) (k : i < ss.length) : ix ss i = some (ss.getD i.toNat 0) := ix_ok h k

/-- The reference's sizes. -/
theorem l2Sizes_from (p : TNode → Int) (e : List TNode) (ps : List Int) (hps : ps.length = e.length) (he : e.length ≤ 31) (hp : ∀ i, i < e.length → ps.getD i 0 = p (e.getD i default) ∨ (ps.getD i 0 = 0 ∧ p (e.getD i default) ≠ 0 ∧ p (e.getD i default) ≠ 1 ∧ p (e.getD i default) ≠ 2 ∧ (e.getD i default).b ≠ 0))
    (hq : ∀ i, i < e.length → ps.getD i 0 = 0 ∨ ps.getD i 0 = 1 ∨ ps.getD i 0 = 2) (hb : ∀ n, p n = 0 → n.b = 0) :
    ∀ (r pre : List TNode) (ss : List Int), e = pre ++ r → ss.length = pre.length → Sized ss →
      loop (fun s : List Int × Int => spec_l2Sizes.b0 e ps s.1 s.2) (ss, (pre.length : Int)) = some (match sizesFrom p ss r with | some s => .inl s | none => .inr []) := by
  intro r
  induction r with
  | nil =>
    intro pre ss h hl hS
    refine loop_end ?_
    unfold spec_l2Sizes.b0
    rw [if_neg (by rw [h]; simp)]; rfl
  | cons n r ih =>
    intro pre ss h hl hS
    have hk : pre.length < e.length := by rw [h]; simp
    have hn : e.getD pre.length default = n := by rw [h]; simp
    have hix : ix e (pre.length : Int) = some n := by rw [ix_nat hk, hn]
    have hp0 := hp _ hk
    have hq0 := hq _ hk
    have hixp : ix ps (pre.length : Int) = some (ps.getD pre.length 0) := ix_nat (by omega)
    rw [hn] at hp0
    have go : ∀ x, sizeStep p ss n = some (ss ++ [x]) → spec_l2Sizes.b0 e ps ss (pre.length : Int) = some (.inl (ss ++ [x], ((pre.length + 1 : Nat) : Int))) →
        loop (fun s : List Int × Int => spec_l2Sizes.b0 e ps s.1 s.2) (ss, (pre.length : Int)) = some (match sizesFrom p ss (n :: r) with | some s => .inl s | none => .inr []) := by
      intro x h1 h2
      rw [loop_go h2]
      have := ih (pre ++ [n]) (ss ++ [x]) (by rw [h]; simp) (by simp [hl]) (sizeStep_sized hS h1).1
      simp only [List.length_append, List.length_singleton] at this
      rw [this]
      simp only [sizesFrom, h1]
    have stop : sizeStep p ss n = none → spec_l2Sizes.b0 e ps ss (pre.length : Int) = some (.inr (.inr [])) →
        loop (fun s : List Int × Int => spec_l2Sizes.b0 e ps s.1 s.2) (ss, (pre.length : Int)) = some (match sizesFrom p ss (n :: r) with | some s => .inl s | none => .inr []) := by
      intro h1 h2
      rw [loop_end h2]; simp only [sizesFrom, h1]
    have happ : ∀ x, app 8 ss [x] = some (ss ++ [x]) := fun x => app_small (by simp; omega) (by omega)
    have hw : IntKind.i64.wrap ((pre.length : Int) + 1) = ((pre.length + 1 : Nat) : Int) := W_nat (by omega)
    have hw1 : IntKind.i64.wrap ((pre.length : Int) - 1) = (pre.length : Int) - 1 := W_eq (by omega) (by omega)
    have unf : spec_l2Sizes.b0 e ps ss (pre.length : Int) = spec_l2Sizes.b0 e ps ss (pre.length : Int) := rfl
    unfold spec_l2Sizes.b0 at go stop
    simp only [if_pos (show (pre.length : Int) < (e.length : Int) by omega), hix, hixp, Option.bind_some, bnd, W, hw, hw1] at go stop
    have hlast : 1 ≤ pre.length → 1 ≤ ss.getD (pre.length - 1) 0 ∧ ss.getD (pre.length - 1) 0 ≤ (pre.length : Int) := fun g => by
      have := hS (pre.length - 1) (by omega); omega
    have hlx : 1 ≤ pre.length → ix ss ((pre.length : Int) - 1) = some (ss.getD (pre.length - 1) 0) := fun g => by
      rw [getL (by omega) (by omega), show ((pre.length : Int) - 1).toNat = pre.length - 1 by omega]
    generalize hz : ss.getD (pre.length - 1) 0 = z at *
    have hz' : ss.getD (ss.length - 1) 0 = z := by rw [hl]; exact hz
    rcases hq0 with q0 | q0 | q0
    · rw [q0] at go stop hp0
      by_cases hb0 : n.b = 0
      · have hp1 : p n = 0 := by
          rcases hp0 with g | g
          · exact g.symm
          · exact absurd hb0 g.2.2.2.2
        exact go 1 (by simp [sizeStep, hp1]) (by simp [hb0, happ])
      · have hp1 : p n ≠ 0 ∧ p n ≠ 1 ∧ p n ≠ 2 := by
          rcases hp0 with g | g
          · exact absurd (hb n g.symm) hb0
          · exact ⟨g.2.1, g.2.2.1, g.2.2.2.1⟩
        exact stop (by simp [sizeStep, hp1]) (by simp [hb0])
    · rw [q0] at go stop hp0
      have hp1 : p n = 1 := by
        rcases hp0 with g | g
        · exact g.symm
        · exact absurd g.1 (by omega)
      by_cases hc : 1 ≤ pre.length ∧ n.a = (pre.length : Int) - 1 ∧ n.b = 0
      · obtain ⟨c1, c2, c3⟩ := hc
        have hl1 := hlast c1
        have hw2 : IntKind.i64.wrap (1 + z) = 1 + z := W_eq (by omega) (by omega)
        refine go (1 + z) (by unfold sizeStep; rw [if_neg (by omega), if_pos hp1, hz', if_pos (by rw [hl]; omega)]) ?_
        rw [if_pos rfl, if_neg (by simp; omega), hlx c1]
        simp only [Option.bind_some, hw2, happ]
      · refine stop (by unfold sizeStep; rw [if_neg (by omega), if_pos hp1, if_neg (by rw [hl]; omega)]) ?_
        rw [if_pos rfl, if_pos (by simp; omega)]
    · rw [q0] at go stop hp0
      have hp1 : p n = 2 := by
        rcases hp0 with g | g
        · exact g.symm
        · exact absurd g.1 (by omega)
      rw [if_neg (by omega), if_pos rfl] at stop
      simp only [if_neg (show ¬ (2 : Int) = 1 by omega), if_pos] at go
      by_cases c1 : 2 ≤ pre.length ∧ n.b = (pre.length : Int) - 1
      · have hl1 := hlast (by omega)
        have hw2 : IntKind.i64.wrap ((pre.length : Int) - 1 - z) = (pre.length : Int) - 1 - z := W_eq (by omega) (by omega)
        rw [if_neg (by simp; omega), hlx (by omega), Option.bind_some, hw2] at stop
        simp only [hlx (show 1 ≤ pre.length by omega), Option.bind_some, hw2] at go
        by_cases c2 : 0 ≤ (pre.length : Int) - 1 - z ∧ n.a = (pre.length : Int) - 1 - z
        · have hx : ix ss ((pre.length : Int) - 1 - z) = some (ss.getD n.a.toNat 0) := by rw [getL (by omega) (by omega), c2.2]
          have h2 := hS n.a.toNat (by omega)
          have hw3 : IntKind.i64.wrap (1 + z) = 1 + z := W_eq (by omega) (by omega)
          have hw4 : IntKind.i64.wrap (1 + z + ss.getD n.a.toNat 0) = 1 + z + ss.getD n.a.toNat 0 := W_eq (by omega) (by omega)
          refine go (1 + z + ss.getD n.a.toNat 0) ?_ ?_
          · unfold sizeStep
            rw [if_neg (by omega), if_neg (by omega), if_pos hp1, hz', if_pos (by rw [hl]; omega)]
          · rw [if_neg (by simp; omega), if_neg (by simp; omega), hx]
            simp only [Option.bind_some, hw3, hw4, happ]
        · refine stop ?_ ?_
          · unfold sizeStep
            rw [if_neg (by omega), if_neg (by omega), if_pos hp1, hz', if_neg (by rw [hl]; omega)]
          · rw [if_pos (by simp; omega)]
      · refine stop ?_ ?_
        · unfold sizeStep
          rw [if_neg (by omega), if_neg (by omega), if_pos hp1, hz', if_neg]
          rw [hl]
          rintro ⟨g1, g2, g3, g4⟩
          have := hlast (by omega)
          exact c1 ⟨by omega, g2⟩
        · rw [if_pos (by simp; omega)]

/-- Where the trees of the first nodes begin; 0 behind them. -/
def begL (ss : List Int) (m : Nat) : List Int := ss.mapIdx (fun j s => (j : Int) + 1 - s) ++ List.replicate (m - ss.length) 0
theorem begL_len (ss : List Int) (m : Nat) (h : ss.length ≤ m) : (begL ss m).length = m := by unfold begL; simp; omega
theorem begL_get {ss : List Int} {m i : Nat} (h : i < ss.length) : (begL ss m).getD i 0 = (i : Int) + 1 - ss.getD i 0 := by
  unfold begL
  rw [List.getD_eq_getElem?_getD, List.getElem?_append_left (by simpa using h)]
  simp [h]
theorem begL_set {ss : List Int} {m : Nat} {x z : Int} (h : ss.length < m) (hx : z = (ss.length : Int) + 1 - x) : (begL ss m).set ss.length z = begL (ss ++ [x]) m := by
  unfold begL
  rw [List.set_append_right _ _ (by simp), List.mapIdx_append, show m - ss.length = (m - (ss.length + 1)) + 1 by omega, List.replicate_succ]
  simp [hx]
theorem begins_from (p : TNode → Int) (e : List TNode) (he : e.length ≤ 31) :
    ∀ (r pre : List TNode) (ss : List Int), e = pre ++ r → ss.length = pre.length → Sized ss →
      loop (fun s : List Int × Int => impl_begins.b0 e (fun n => some (p n)) s.1 s.2) (begL ss e.length, (pre.length : Int)) = some (match sizesFrom p ss r with | some s => .inl (begL s e.length) | none => .inr ([], false)) := by
  intro r
  induction r with
  | nil =>
    intro pre ss h hl hS
    refine loop_end ?_
    unfold impl_begins.b0
    rw [if_neg (by rw [h]; simp)]; rfl
  | cons n r ih =>
    intro pre ss h hl hS
    have hk : pre.length < e.length := by rw [h]; simp
    have hn : e.getD pre.length default = n := by rw [h]; simp
    have hix : ix e (pre.length : Int) = some n := by rw [ix_nat hk, hn]
    have hbl := begL_len ss e.length (by omega)
    have hck : ck (pre.length : Int) (begL ss e.length).length = some pre.length := ck_nat (by omega)
    have go : ∀ x, sizeStep p ss n = some (ss ++ [x]) → impl_begins.b0 e (fun n => some (p n)) (begL ss e.length) (pre.length : Int) = some (.inl (begL (ss ++ [x]) e.length, ((pre.length + 1 : Nat) : Int))) →
        loop (fun s : List Int × Int => impl_begins.b0 e (fun n => some (p n)) s.1 s.2) (begL ss e.length, (pre.length : Int)) = some (match sizesFrom p ss (n :: r) with | some s => .inl (begL s e.length) | none => .inr ([], false)) := by
      intro x h1 h2
      rw [loop_go h2]
      have := ih (pre ++ [n]) (ss ++ [x]) (by rw [h]; simp) (by simp [hl]) (sizeStep_sized hS h1).1
      simp only [List.length_append, List.length_singleton] at this
      rw [this]
      simp only [sizesFrom, h1]
    have stop : sizeStep p ss n = none → impl_begins.b0 e (fun n => some (p n)) (begL ss e.length) (pre.length : Int) = some (.inr (.inr ([], false))) →
        loop (fun s : List Int × Int => impl_begins.b0 e (fun n => some (p n)) s.1 s.2) (begL ss e.length, (pre.length : Int)) = some (match sizesFrom p ss (n :: r) with | some s => .inl (begL s e.length) | none => .inr ([], false)) := by
      intro h1 h2
      rw [loop_end h2]; simp only [sizesFrom, h1]
    have hw : IntKind.i64.wrap ((pre.length : Int) + 1) = ((pre.length + 1 : Nat) : Int) := W_nat (by omega)
    have hw1 : IntKind.i64.wrap ((pre.length : Int) - 1) = (pre.length : Int) - 1 := W_eq (by omega) (by omega)
    unfold impl_begins.b0 at go stop
    simp only [if_pos (show (pre.length : Int) < (e.length : Int) by omega), hix, hck, Option.bind_some, bnd, W, hw, hw1] at go stop
    have hlast : 1 ≤ pre.length → 1 ≤ ss.getD (pre.length - 1) 0 ∧ ss.getD (pre.length - 1) 0 ≤ (pre.length : Int) := fun g => by
      have := hS (pre.length - 1) (by omega); omega
    have hset : ∀ z x : Int, z = (ss.length : Int) + 1 - x → ((begL ss e.length).set pre.length (pre.length : Int)).set pre.length z = begL (ss ++ [x]) e.length := by
      intro z x hz
      rw [List.set_set, ← hl]; exact begL_set (by omega) hz
    have hset1 : (begL ss e.length).set pre.length (pre.length : Int) = begL (ss ++ [1]) e.length := by
      have := begL_set (ss := ss) (m := e.length) (x := 1) (z := (ss.length : Int)) (by omega) (by omega)
      rw [hl] at this; exact this
    have hls : ∀ z : Int, ((begL ss e.length).set pre.length z).length = e.length := fun z => by simp [hbl]
    have hget : ∀ i : Nat, i < pre.length → ix ((begL ss e.length).set pre.length (pre.length : Int)) (i : Int) = some ((i : Int) + 1 - ss.getD i 0) := by
      intro i hi
      rw [ix_nat (by rw [hls]; omega), ← begL_get (m := e.length) (by omega)]
      simp [List.getD, List.getElem?_set_ne (show pre.length ≠ i by omega)]
    have hck2 : ck (pre.length : Int) ((begL ss e.length).set pre.length (pre.length : Int)).length = some pre.length := ck_nat (by rw [hls]; omega)
    generalize hz : ss.getD (pre.length - 1) 0 = z at *
    have hz' : ss.getD (ss.length - 1) 0 = z := by rw [hl]; exact hz
    by_cases q0 : p n = 0
    · exact go 1 (by simp [sizeStep, q0]) (by rw [if_pos q0, hset1])
    rw [if_neg q0] at stop
    simp only [if_neg q0] at go
    by_cases q1 : p n = 1
    · rw [if_pos q1] at stop
      simp only [if_pos q1] at go
      by_cases hc : 1 ≤ pre.length ∧ n.a = (pre.length : Int) - 1 ∧ n.b = 0
      · obtain ⟨c1, c2, c3⟩ := hc
        refine go (1 + z) (by unfold sizeStep; rw [if_neg (by omega), if_pos q1, hz', if_pos (by rw [hl]; omega)]) ?_
        have hg := hget (pre.length - 1) (by omega)
        rw [show ((pre.length - 1 : Nat) : Int) = n.a by omega, hz] at hg
        rw [if_neg (by simp only [Bool.or_eq_true, decide_eq_true_eq]; omega), hg]
        simp only [Option.bind_some, hck2]
        rw [hset _ (1 + z) (by omega)]
      · exact stop (by unfold sizeStep; rw [if_neg (by omega), if_pos q1, if_neg (by rw [hl]; omega)]) (by rw [if_pos (by simp only [Bool.or_eq_true, decide_eq_true_eq]; omega)])
    rw [if_neg q1] at stop
    simp only [if_neg q1] at go
    by_cases q2 : p n = 2
    · rw [if_pos q2] at stop
      simp only [if_pos q2] at go
      by_cases c1 : 1 ≤ pre.length ∧ n.b = (pre.length : Int) - 1
      · have hl1 := hlast (by omega)
        have hg := hget (pre.length - 1) (by omega)
        rw [show ((pre.length - 1 : Nat) : Int) = (pre.length : Int) - 1 by omega, hz] at hg
        have hfalse : (decide ((pre.length : Int) = 0) || decide (n.b ≠ (pre.length : Int) - 1)) = false := by rw [Bool.or_eq_false_iff, decide_eq_false_iff_not, decide_eq_false_iff_not]; omega
        have hw2 : IntKind.i64.wrap ((pre.length : Int) - 1 + 1 - z - 1) = (pre.length : Int) - 1 - z := by rw [W_eq (by omega) (by omega)]; omega
        simp only [hfalse, Bool.not_false, whenO_t, hg, Option.bind_some, hw2, Bool.false_or] at go stop
        by_cases c2 : 0 ≤ (pre.length : Int) - 1 - z ∧ n.a = (pre.length : Int) - 1 - z
        · have h2 := hS n.a.toNat (by omega)
          have hg2 := hget n.a.toNat (by omega)
          rw [show ((n.a.toNat : Nat) : Int) = n.a by omega] at hg2
          refine go (1 + z + ss.getD n.a.toNat 0) (by unfold sizeStep; rw [if_neg (by omega), if_neg (by omega), if_pos q2, hz', if_pos (by rw [hl]; omega)]) ?_
          rw [if_neg (by simp only [Bool.or_eq_true, decide_eq_true_eq]; omega), hg2]
          simp only [Option.bind_some, hck2]
          rw [hset _ (1 + z + ss.getD n.a.toNat 0) (by omega)]
        · exact stop (by unfold sizeStep; rw [if_neg (by omega), if_neg (by omega), if_pos q2, hz', if_neg (by rw [hl]; omega)]) (by rw [if_pos (by simp only [Bool.or_eq_true, decide_eq_true_eq]; omega)])
      · have htrue : (decide ((pre.length : Int) = 0) || decide (n.b ≠ (pre.length : Int) - 1)) = true := by simp only [Bool.or_eq_true, decide_eq_true_eq]; omega
        simp only [htrue, Bool.not_true, whenO_f, Option.bind_some, Bool.true_or, if_true] at stop
        exact stop (by unfold sizeStep; rw [if_neg (by omega), if_neg (by omega), if_pos q2, if_neg (by rw [hl]; omega)]) (by first | trivial | rfl)
    · rw [if_neg q2] at stop
      exact stop (by unfold sizeStep; rw [if_neg q0, if_neg q1, if_neg q2]) rfl

theorem sizesFrom_sized {p : TNode → Int} : ∀ {r : List TNode} {ss s : List Int}, Sized ss → sizesFrom p ss r = some s → Sized s ∧ s.length = ss.length + r.length
  | [], ss, s, h, hs => by cases hs; exact ⟨h, by simp⟩
  | n :: r, ss, s, h, hs => by
    unfold sizesFrom at hs
    split at hs
    · rename_i ss' h1
      obtain ⟨g1, g2⟩ := sizeStep_sized h h1
      obtain ⟨k1, k2⟩ := sizesFrom_sized g1 hs
      exact ⟨k1, by simp; omega⟩
    · cases hs
theorem inRange_eq (x a b : Int) : impl_inRange x a b = decide (a ≤ x ∧ x ≤ b) := inR
theorem l1In_eq (x a b : Int) : spec_l1In x a b = decide (a ≤ x ∧ x ≤ b) := inR
theorem isTree_eq (p : TNode → Int) (e : List TNode) : impl_isTree e (fun n => some (p n)) = some (treeOk p e) := by
  unfold impl_isTree impl_begins treeOk
  rw [inRange_eq]
  by_cases h : 1 ≤ e.length ∧ e.length ≤ 31
  · rw [if_neg (by simp; omega), mk_ok (by omega) (by omega), Option.bind_some, Int.toNat_natCast]
    have h1 := begins_from p e h.2 e [] [] rfl rfl Sized.nil
    have h0 : begL [] e.length = List.replicate e.length 0 := by simp [begL]
    rw [h0] at h1
    simp only [List.length_nil, Int.natCast_zero] at h1
    rw [h1]
    cases hs : sizesFrom p [] e with
    | none => simp
    | some s =>
      obtain ⟨k1, k2⟩ := sizesFrom_sized Sized.nil hs
      simp only [List.length_nil, Nat.zero_add] at k2
      have hbl := begL_len s e.length (by omega)
      simp only [Option.bind_some, Sum.elim_inl, impl_begins.k0, W]
      rw [W_eq (by omega) (by omega), show ((e.length : Int) - 1) = ((e.length - 1 : Nat) : Int) by omega, ix_nat (by omega), Option.bind_some, show (default : Int) = 0 from rfl, begL_get (by omega)]
      simp only [Option.bind_some, h, and_self, decide_true, Bool.true_and, Option.some.injEq]
      rw [decide_eq_decide]; omega
  · rw [if_pos (by simp; omega)]; simp; omega

theorem sizesFrom_bad {p : TNode → Int} : ∀ {r : List TNode} {ss : List Int}, (∃ n ∈ r, p n ≠ 0 ∧ p n ≠ 1 ∧ p n ≠ 2) → sizesFrom p ss r = none
  | [], ss, ⟨n, h, _⟩ => by simp at h
  | m :: r, ss, ⟨n, h, k⟩ => by
    unfold sizesFrom
    rcases List.mem_cons.mp h with rfl | h
    · have : sizeStep p ss n = none := by unfold sizeStep; rw [if_neg k.1, if_neg k.2.1, if_neg k.2.2]
      rw [this]
    · split
      · exact sizesFrom_bad ⟨n, h, k⟩
      · rfl
/-- The numbers of parts, told one by one. -/
theorem parts_loop (bad : TNode → Bool) (q : TNode → Int) (e : List TNode) (hl : e.length ≤ 31) :
    loop (fun s : List Int × Int => if s.2 < (e.length : Int) then (ix e s.2).bind fun n => if bad n = true then some (.inr (.inr false)) else (app 8 s.1 [q n]).bind fun z => some (.inl (z, W (s.2 + 1))) else some (.inr (.inl s.1))) ([], 0)
      = some (if e.any bad = true then (.inr false : List Int ⊕ Bool) else .inl (e.map q)) := by
  have key : ∀ (r pre : List TNode), e = pre ++ r → loop (fun s : List Int × Int => if s.2 < (e.length : Int) then (ix e s.2).bind fun n => if bad n = true then some (.inr (.inr false)) else (app 8 s.1 [q n]).bind fun z => some (.inl (z, W (s.2 + 1))) else some (.inr (.inl s.1))) (pre.map q, (pre.length : Int))
      = some (if r.any bad = true then (.inr false : List Int ⊕ Bool) else .inl (e.map q)) := by
    intro r
    induction r with
    | nil => intro pre h; refine loop_end ?_; dsimp only; rw [if_neg (by rw [h]; simp)]; simp [h]
    | cons n r ih =>
      intro pre h
      have hk : pre.length < e.length := by rw [h]; simp
      have hix : ix e (pre.length : Int) = some n := by rw [ix_nat hk, h]; simp
      by_cases hb : bad n = true
      · rw [loop_end (r := .inr false)]
        · simp [hb]
        · dsimp only; rw [if_pos (by omega), hix, Option.bind_some, if_pos hb]
      · rw [loop_go (s' := ((pre ++ [n]).map q, ((pre ++ [n]).length : Int)))]
        · rw [ih (pre ++ [n]) (by rw [h]; simp)]
          simp [hb]
        · dsimp only
          rw [if_pos (by omega), hix, Option.bind_some, if_neg hb, app_small (by simp; omega) (by omega), Option.bind_some, W, W_nat (by omega)]
          simp
  have := key e [] rfl
  simpa using this
/-- The reference's last part: sizes out of the parts told. -/
theorem sizes_end (p q : TNode → Int) (e : List TNode) (h1 : 1 ≤ e.length) (h2 : e.length ≤ 31) (hp : ∀ n ∈ e, q n = p n ∨ (q n = 0 ∧ p n ≠ 0 ∧ p n ≠ 1 ∧ p n ≠ 2 ∧ n.b ≠ 0)) (hq : ∀ n ∈ e, q n = 0 ∨ q n = 1 ∨ q n = 2) (hb : ∀ n, p n = 0 → n.b = 0) :
    ((spec_l2Sizes e (e.map q)).bind fun a59 => bnd ((decide (((a59.length : Int)) = ((e.length : Int))))) fun c65 => (whenO c65 (ix a59 ((W (((e.length : Int)) - 1))))).bind fun a70 => some ((c65 && (decide (a70 = ((e.length : Int))))))) = some (treeOk p e) := by
  have hd : ∀ i, i < e.length → (e.map q).getD i 0 = q (e.getD i default) ∧ e.getD i default ∈ e := fun i hi => by
    refine ⟨by simp [hi], ?_⟩
    have : e.getD i default = e[i] := by simp [hi]
    rw [this]; exact List.getElem_mem hi
  have h := l2Sizes_from p e (e.map q) (by simp) h2 (fun i hi => by obtain ⟨g1, g2⟩ := hd i hi; rw [g1]; exact hp _ g2) (fun i hi => by obtain ⟨g1, g2⟩ := hd i hi; rw [g1]; exact hq _ g2) hb e [] [] rfl rfl Sized.nil
  simp only [List.length_nil, Int.natCast_zero] at h
  unfold spec_l2Sizes
  rw [h]
  unfold treeOk
  cases hs : sizesFrom p [] e with
  | none =>
    simp only [Option.bind_some, Sum.elim_inr, bnd]
    have : decide ((([] : List Int).length : Int) = (e.length : Int)) = false := by simp; omega
    rw [this]; simp [whenO_f]
  | some s =>
    obtain ⟨k1, k2⟩ := sizesFrom_sized Sized.nil hs
    simp only [List.length_nil, Nat.zero_add] at k2
    simp only [Option.bind_some, Sum.elim_inl, spec_l2Sizes.k0, bnd]
    have : decide ((s.length : Int) = (e.length : Int)) = true := by simp; omega
    rw [this, whenO_t, W, W_eq (by omega) (by omega), show ((e.length : Int) - 1) = ((e.length - 1 : Nat) : Int) by omega, ix_nat (by omega)]
    simp only [Option.bind_some, h1, h2, and_self, decide_true, Bool.true_and]
    rfl
end Go.Proofs.Ythdoebgikbfndaa
end

/- Trees of nodes: where the parts of a node lie; what is told of each node by its parts. -/
section
namespace Go.Proofs.Ythdoebgikbfndaa
open Go Go.RowKit E
set_option linter.unusedVariables false

/-- A node at place i has its parts ahead of it. -/
def NodeAt (p : TNode → Int) (i : Nat) (n : TNode) : Prop :=
  p n = 0 ∨ (p n = 1 ∧ 1 ≤ i ∧ n.a = (i : Int) - 1 ∧ n.b = 0) ∨ (p n = 2 ∧ 1 ≤ i ∧ n.b = (i : Int) - 1 ∧ 0 ≤ n.a ∧ n.a < (i : Int) - 1)
theorem sizeStep_node {p : TNode → Int} {ss ss' : List Int} {n : TNode} (hS : Sized ss) (h : sizeStep p ss n = some ss') : NodeAt p ss.length n := by
  unfold sizeStep at h
  split at h
  · rename_i k; exact .inl k
  · split at h
    · rename_i k
      split at h
      · rename_i g; exact .inr (.inl ⟨k, g.1, g.2.1, g.2.2⟩)
      · cases h
    · split at h
      · rename_i k
        split at h
        · rename_i g
          have := hS (ss.length - 1) (by omega)
          exact .inr (.inr ⟨k, g.1, g.2.1, by omega, by omega⟩)
        · cases h
      · cases h
theorem sizesFrom_nodes {p : TNode → Int} : ∀ {r : List TNode} {ss s : List Int}, Sized ss → sizesFrom p ss r = some s → ∀ i, i < r.length → NodeAt p (ss.length + i) (r.getD i default)
  | [], _, _, _, _, i, hi => by simp at hi
  | n :: r, ss, s, hS, h, i, hi => by
    unfold sizesFrom at h
    split at h
    · rename_i ss' h1
      obtain ⟨g1, g2⟩ := sizeStep_sized hS h1
      cases i with
      | zero => exact sizeStep_node hS h1
      | succ i =>
        have := sizesFrom_nodes g1 h i (by simpa using hi)
        rw [g2] at this
        simpa [Nat.add_assoc, Nat.add_comm 1 i] using this
    · cases h
/-- A right tree: its nodes. -/
def Nodes (p : TNode → Int) (e : List TNode) : Prop := 1 ≤ e.length ∧ e.length ≤ 31 ∧ ∀ i, i < e.length → NodeAt p i (e.getD i default)
theorem treeOk_nodes {p : TNode → Int} {e : List TNode} (h : treeOk p e = true) : Nodes p e := by
  unfold treeOk at h
  rw [Bool.and_eq_true, decide_eq_true_eq] at h
  obtain ⟨h1, h2⟩ := h
  cases hs : sizesFrom p [] e with
  | none => rw [hs] at h2; cases h2
  | some s =>
    refine ⟨h1.1, h1.2, fun i hi => ?_⟩
    have := sizesFrom_nodes Sized.nil hs i hi
    simpa using this

/-- What is told of each node, by what is told of those ahead. -/
def accum {β : Type} (f : TNode → List β → β) : List β → List TNode → List β
  | ts, [] => ts
  | ts, n :: r => accum f (ts ++ [f n ts]) r
theorem accum_len {β : Type} (f : TNode → List β → β) : ∀ (r : List TNode) (ts : List β), (accum f ts r).length = ts.length + r.length
  | [], ts => by simp [accum]
  | n :: r, ts => by rw [accum, accum_len f r]; simp; omega
theorem accum_app {β : Type} (f : TNode → List β → β) : ∀ (r s : List TNode) (ts : List β), accum f ts (r ++ s) = accum f (accum f ts r) s
  | [], s, ts => rfl
  | n :: r, s, ts => by rw [List.cons_append, accum, accum_app f r s, accum]
theorem accum_pre {β : Type} (f : TNode → List β → β) : ∀ (r : List TNode) (ts : List β), ∃ us, accum f ts r = ts ++ us
  | [], ts => ⟨[], by simp [accum]⟩
  | n :: r, ts => by
    obtain ⟨us, h⟩ := accum_pre f r (ts ++ [f n ts])
    exact ⟨f n ts :: us, by rw [accum, h]; simp⟩
/-- The i-th thing told. -/
theorem accum_get {β : Type} (f : TNode → List β → β) (d : β) (e : List TNode) {i : Nat} (hi : i < e.length) : (accum f [] e).getD i d = f (e.getD i default) (accum f [] (e.take i)) := by
  have h : e = e.take i ++ e.getD i default :: e.drop (i + 1) := by
    have : e.getD i default = e[i] := by simp [hi]
    rw [this]; simp
  have hl : (accum f [] (e.take i)).length = i := by rw [accum_len]; simp; omega
  obtain ⟨us, hu⟩ := accum_pre f (e.drop (i + 1)) (accum f [] (e.take i) ++ [f (e.getD i default) (accum f [] (e.take i))])
  have : accum f [] e = accum f [] (e.take i) ++ f (e.getD i default) (accum f [] (e.take i)) :: us := by
    conv => lhs; rw [h]
    rw [accum_app, accum, hu]; simp
  rw [this, List.getD_eq_getElem?_getD, List.getElem?_append_right (by omega), hl]
  simp
theorem accum_take {β : Type} (f : TNode → List β → β) (d : β) (e : List TNode) {i j : Nat} (hi : i ≤ e.length) (hj : j < i) : (accum f [] (e.take i)).getD j d = (accum f [] e).getD j d := by
  have hl : (accum f [] (e.take i)).length = i := by rw [accum_len]; simp; omega
  obtain ⟨us, hu⟩ := accum_pre f (e.drop i) (accum f [] (e.take i))
  have : accum f [] e = accum f [] (e.take i) ++ us := by
    rw [← hu, ← accum_app, List.take_append_drop]
  rw [this, List.getD_eq_getElem?_getD, List.getD_eq_getElem?_getD, List.getElem?_append_left (by omega)]
theorem accum_snoc {β : Type} (f : TNode → List β → β) (e : List TNode) {i : Nat} (hi : i < e.length) : accum f [] (e.take (i + 1)) = accum f [] (e.take i) ++ [f (e.getD i default) (accum f [] (e.take i))] := by
  have : e.getD i default = e[i] := by simp [hi]
  rw [List.take_succ_eq_append_getElem hi, accum_app, accum, accum, this]
end Go.Proofs.Ythdoebgikbfndaa
end

/- Formulas: the program and the reference find the same ones right. -/
section
namespace Go.Proofs.Ythdoebgikbfndaa
open Go Go.RowKit E
set_option linter.unusedVariables false

theorem lleaf_eq (n : TNode) (m : Int) : impl_leaf n m = if n.b = 0 ∧ 0 ≤ n.a ∧ n.a ≤ m then 0 else -1 := by
  unfold impl_leaf
  simp only [bnd, inRange_eq, Bool.and_eq_true, decide_eq_true_eq]
noncomputable abbrev ltP : TNode → Int := impl_ltlParts
theorem ltP_eq (n : TNode) : ltP n = if n.kind = 1 ∨ n.kind = 2 then (if n.b = 0 ∧ n.a = 0 then 0 else -1) else if n.kind = 3 then (if n.b = 0 ∧ 0 ≤ n.a ∧ n.a ≤ 2 then 0 else -1) else if n.kind = 4 ∨ n.kind = 7 ∨ n.kind = 10 ∨ n.kind = 11 then 1 else if n.kind = 5 ∨ n.kind = 6 ∨ n.kind = 8 ∨ n.kind = 9 then 2 else -1 := by
  unfold ltP impl_ltlParts impl_exprParts impl_exprParts.k0
  simp only [lleaf_eq, decide_eq_true_eq]
  (repeat' split) <;> first | rfl | omega
theorem l8Parts_eq (k : Int) : spec_l8Parts k = if k = 1 ∨ k = 2 ∨ k = 3 then 0 else if k = 4 ∨ k = 7 ∨ k = 10 ∨ k = 11 then 1 else if k = 5 ∨ k = 6 ∨ k = 8 ∨ k = 9 then 2 else -1 := by
  unfold spec_l8Parts spec_l8Parts.k0 spec_l8Parts.k1
  simp only [decide_eq_true_eq]
  (repeat' split) <;> first | rfl | omega
theorem l2Leaf_eq (n : TNode) : spec_l2Leaf n = decide ((n.kind = 3 ∧ 0 ≤ n.a ∧ n.a ≤ 2) ∨ (n.kind ≠ 3 ∧ n.a = 0)) := by
  unfold spec_l2Leaf
  simp only [l1In_eq]
  split <;> rw [decide_eq_decide] <;> omega
noncomputable def ltBad (n : TNode) : Bool := decide (spec_l8Parts n.kind < 0) || (decide (spec_l8Parts n.kind = 0) && !(spec_l2Leaf n))
theorem ltBad_iff (n : TNode) : ltBad n = true ↔ ¬ ((n.kind = 1 ∨ n.kind = 2) ∧ n.a = 0 ∨ n.kind = 3 ∧ 0 ≤ n.a ∧ n.a ≤ 2 ∨ (4 ≤ n.kind ∧ n.kind ≤ 11)) := by
  unfold ltBad
  rw [l2Leaf_eq, l8Parts_eq]
  simp only [Bool.or_eq_true, Bool.and_eq_true, decide_eq_true_eq, Bool.not_eq_true', decide_eq_false_iff_not]
  split
  · omega
  · split
    · omega
    · split <;> omega
theorem specLtlOk_eq (e : List TNode) : spec_LtlOk e = some (treeOk ltP e) := by
  unfold spec_LtlOk
  rw [l1In_eq]
  by_cases h : 1 ≤ e.length ∧ e.length ≤ 31
  · rw [if_neg (by simp; omega)]
    have h1 := parts_loop ltBad (fun n => spec_l8Parts n.kind) e h.2
    have h2 : loop (fun s : List Int × Int => spec_LtlOk.b0 e s.1 s.2) ([], 0) = some (if e.any ltBad = true then (.inr false : List Int ⊕ Bool) else .inl (e.map fun n => spec_l8Parts n.kind)) := by
      rw [← h1]
      congr 1
      funext s
      unfold spec_LtlOk.b0
      split
      · cases ix e s.2 with
        | none => rfl
        | some a =>
          simp only [Option.bind_some, bnd_eq]
          unfold ltBad
          by_cases c1 : spec_l8Parts a.kind < 0
          · rw [decide_eq_true c1, Bool.not_true, Bool.false_and, whenO_f]; rfl
          · rw [decide_eq_false c1, Bool.not_false, Bool.true_and]
            by_cases c2 : spec_l8Parts a.kind = 0
            · rw [decide_eq_true c2, whenO_t]; rfl
            · rw [decide_eq_false c2, whenO_f]; rfl
      · rfl
    rw [h2, Option.bind_some]
    by_cases hb : e.any ltBad = true
    · rw [if_pos hb, Sum.elim_inr]
      obtain ⟨n, hn, hbn⟩ := List.any_eq_true.mp hb
      rw [ltBad_iff] at hbn
      unfold treeOk
      rw [sizesFrom_bad ⟨n, hn, by rw [ltP_eq]; split <;> (try split) <;> (try split) <;> (try split) <;> omega⟩]
      simp
    · rw [if_neg hb, Sum.elim_inl]
      have hg : ∀ n ∈ e, ¬ ltBad n = true := fun n hn k => hb (List.any_eq_true.mpr ⟨n, hn, k⟩)
      refine sizes_end ltP (fun n => spec_l8Parts n.kind) e h.1 h.2 (fun n hn => ?_) (fun n hn => ?_) (fun n hn => ?_)
      · have := hg n hn
        rw [ltBad_iff] at this
        rw [ltP_eq, l8Parts_eq]
        split <;> (try split) <;> (try split) <;> (try split) <;> omega
      · have := hg n hn
        rw [ltBad_iff] at this
        rw [l8Parts_eq]
        split <;> (try split) <;> (try split) <;> omega
      · rw [ltP_eq] at hn
        split at hn <;> (try split at hn) <;> (try split at hn) <;> (try split at hn) <;> omega
  · rw [if_pos (by simp; omega)]; unfold treeOk; simp; omega
theorem implLtlOk_eq (e : List TNode) : impl_LtlOk e = some (treeOk ltP e) := by
  unfold impl_LtlOk
  rw [isTree_eq]; rfl
theorem ltKinds {i : Nat} {n : TNode} (hn : NodeAt ltP i n) :
    (((n.kind = 1 ∨ n.kind = 2) ∧ n.a = 0 ∨ n.kind = 3 ∧ 0 ≤ n.a ∧ n.a ≤ 2) ∧ n.b = 0) ∨ ((n.kind = 4 ∨ n.kind = 7 ∨ n.kind = 10 ∨ n.kind = 11) ∧ 1 ≤ i ∧ n.a = (i : Int) - 1 ∧ n.b = 0) ∨ ((n.kind = 5 ∨ n.kind = 6 ∨ n.kind = 8 ∨ n.kind = 9) ∧ 1 ≤ i ∧ n.b = (i : Int) - 1 ∧ 0 ≤ n.a ∧ n.a < (i : Int) - 1) := by
  have hk := ltP_eq n
  unfold NodeAt at hn
  by_cases k1 : n.kind = 1 ∨ n.kind = 2
  · rw [if_pos k1] at hk
    by_cases c : n.b = 0 ∧ n.a = 0
    · exact .inl (by omega)
    · rw [if_neg c] at hk; omega
  rw [if_neg k1] at hk
  by_cases k3 : n.kind = 3
  · rw [if_pos k3] at hk
    by_cases c : n.b = 0 ∧ 0 ≤ n.a ∧ n.a ≤ 2
    · exact .inl (by omega)
    · rw [if_neg c] at hk; omega
  rw [if_neg k3] at hk
  by_cases k4 : n.kind = 4 ∨ n.kind = 7 ∨ n.kind = 10 ∨ n.kind = 11
  · rw [if_pos k4] at hk
    exact .inr (.inl (by omega))
  rw [if_neg k4] at hk
  by_cases k5 : n.kind = 5 ∨ n.kind = 6 ∨ n.kind = 8 ∨ n.kind = 9
  · rw [if_pos k5] at hk
    exact .inr (.inr (by omega))
  · rw [if_neg k5] at hk; omega
end Go.Proofs.Ythdoebgikbfndaa
end

/- Places of the nodes of time. -/
section
namespace Go.Proofs.Ythdoebgikbfndaa
open Go Go.RowKit E
set_option linter.unusedVariables false

def tempL : Nat → List TNode → List Int
  | _, [] => []
  | k, n :: r => if n.kind ≥ 7 then (k : Int) :: tempL (k + 1) r else tempL (k + 1) r
theorem tempL_len : ∀ (r : List TNode) (k : Nat), (tempL k r).length ≤ r.length
  | [], _ => Nat.le_refl _
  | n :: r, k => by
    have := tempL_len r (k + 1)
    unfold tempL
    split
    · simp; omega
    · simp; omega
theorem temp_loop {body : List Int × Int → Option ((List Int × Int) ⊕ List Int)} (e : List TNode) (he : e.length ≤ 31) (hb : ∀ y x, body (y, x) = if x < (e.length : Int) then (ix e x).bind fun a => if a.kind ≥ 7 then (app 8 y [x]).bind fun z => some (.inl (z, W (x + 1))) else some (.inl (y, W (x + 1))) else some (.inr y)) : ∀ (r pre : List TNode) (y : List Int), e = pre ++ r → y.length ≤ pre.length → loop body (y, (pre.length : Int)) = some (y ++ tempL pre.length r)
  | [], pre, y, h, hy => loop_end (by rw [hb, if_neg (by rw [h]; simp)]; simp [tempL])
  | n :: r, pre, y, h, hy => by
    have hl : pre.length + (r.length + 1) = e.length := by rw [h]; simp
    have w4 : W ((pre.length : Int) + 1) = (((pre ++ [n]).length : Nat) : Int) := by rw [W, W_eq (by omega) (by omega)]; simp
    have hix : ix e (pre.length : Int) = some n := by rw [h]; exact ix_mid pre n r
    by_cases c : n.kind ≥ 7
    · rw [loop_go (s' := (y ++ [(pre.length : Int)], (((pre ++ [n]).length : Nat) : Int)))]
      · rw [temp_loop e he hb r (pre ++ [n]) _ (by rw [h]; simp) (by simp; omega)]
        simp [tempL, c]
      · rw [hb, if_pos (by omega), hix, Option.bind_some, if_pos c, app_small (by simp; omega) (by omega), Option.bind_some, w4]
    · rw [loop_go (s' := (y, (((pre ++ [n]).length : Nat) : Int)))]
      · rw [temp_loop e he hb r (pre ++ [n]) _ (by rw [h]; simp) (by simp; omega)]
        simp [tempL, c]
      · rw [hb, if_pos (by omega), hix, Option.bind_some, if_neg c, w4]
end Go.Proofs.Ythdoebgikbfndaa
end

/- What a node of a formula says, by its parts, the letter, and what is so from the next place on. -/
section
namespace Go.Proofs.Ythdoebgikbfndaa
open Go Go.RowKit E
set_option linter.unusedVariables false

def soV (n : TNode) (ts : List Bool) (l : Nat) (bit : Bool) : Bool :=
  if n.kind = 1 then true else if n.kind = 3 then l.testBit n.a.toNat else if n.kind = 4 then !(ts.getD n.a.toNat default)
  else if n.kind = 5 then (ts.getD n.a.toNat default && ts.getD n.b.toNat default) else if n.kind = 6 then (ts.getD n.a.toNat default || ts.getD n.b.toNat default)
  else if n.kind = 7 then bit else if n.kind = 8 then (ts.getD n.b.toNat default || (ts.getD n.a.toNat default && bit))
  else if n.kind = 9 then (ts.getD n.b.toNat default && (ts.getD n.a.toNat default || bit))
  else if n.kind = 10 then (ts.getD n.a.toNat default || bit) else if n.kind = 11 then (ts.getD n.a.toNat default && bit) else false
end Go.Proofs.Ythdoebgikbfndaa
end

/- Powers of two. -/
section
namespace Go.Proofs.Ythdoebgikbfndaa
open Go Go.RowKit E
set_option linter.unusedVariables false

theorem pow31 {n : Nat} (h : n ≤ 31) : 2 ^ n ≤ 2147483648 ∧ 1 ≤ 2 ^ n := ⟨by
  have : 2 ^ n ≤ 2 ^ 31 := Nat.pow_le_pow_right (by omega) h
  exact this, Nat.two_pow_pos n⟩
theorem lt31 {n s : Nat} (hn : n ≤ 31) (h : s < 2 ^ n) : s < 2 ^ 31 := Nat.lt_of_lt_of_le h (Nat.pow_le_pow_right (by omega) hn)
end Go.Proofs.Ythdoebgikbfndaa
end

/- Members of sets, by the reference. -/
section
namespace Go.Proofs.Ythdoebgikbfndaa
open Go Go.RowKit E
set_option linter.unusedVariables false

theorem and31 {x : Int} (h : 0 ≤ x ∧ x ≤ 30) : bAnd .i64 x 31 = x := by
  obtain ⟨y, rfl⟩ : ∃ y : Nat, x = y := ⟨x.toNat, by omega⟩
  have := bAnd_i (a := y) (b := 31) (by omega) (by omega)
  rw [show ((31 : Nat) : Int) = 31 from rfl] at this
  rw [this, show (31 : Nat) = 2 ^ 5 - 1 from rfl, Nat.and_two_pow_sub_one_eq_mod, Nat.mod_eq_of_lt (by omega)]
theorem l1Bit_eq {x : Int} (h : 0 ≤ x ∧ x ≤ 30) : spec_l1Bit x = some ((2 ^ x.toNat : Nat) : Int) := by
  unfold spec_l1Bit
  rw [and31 h, decide_eq_true h.1, chk_t, Option.bind_some]
  have := shl1_i (n := x.toNat) (by omega)
  rw [show ((x.toNat : Nat) : Int) = x by omega] at this
  rw [this]
theorem and_pow (s n : Nat) : decide (s &&& 2 ^ n ≠ 0) = s.testBit n := by
  cases h : s.testBit n with
  | false =>
    have : s &&& 2 ^ n = 0 := Nat.eq_of_testBit_eq fun i => by
      rw [Nat.testBit_and, Nat.testBit_two_pow, Nat.zero_testBit]
      by_cases e : n = i
      · subst e; rw [h]; rfl
      · simp [e]
    simp [this]
  | true =>
    rw [decide_eq_true_eq]
    intro g
    have := congrArg (fun x => x.testBit n) g
    simp [Nat.testBit_and, h, Nat.testBit_two_pow] at this
theorem l1Has_eq {s : Nat} (hs : s < 2 ^ 31) {x : Int} (h : 0 ≤ x ∧ x ≤ 30) : spec_l1Has (s : Int) x = some (s.testBit x.toNat) := by
  unfold spec_l1Has
  have hp := pow31 (n := x.toNat) (by omega)
  have h31 : (2 : Nat) ^ 31 = 2147483648 := rfl
  rw [bnd_eq, show spec_l1In x 0 30 = decide (0 ≤ x ∧ x ≤ 30) from inR, decide_eq_true h, whenO_t, l1Bit_eq h, Option.bind_some, bAnd_i (by omega) (by omega), Bool.true_and, ← and_pow]
  congr 1
  rw [decide_eq_decide]; omega
end Go.Proofs.Ythdoebgikbfndaa
end

/- Members of sets, by the program. -/
section
namespace Go.Proofs.Ythdoebgikbfndaa
open Go Go.RowKit E
set_option linter.unusedVariables false

theorem has_eq {s : Nat} (hs : s < 2 ^ 31) {x : Int} (h : 0 ≤ x ∧ x ≤ 30) : impl_has (s : Int) x = s.testBit x.toNat := by
  unfold impl_has
  have h31 : (2 : Nat) ^ 31 = 2147483648 := rfl
  obtain ⟨y, rfl⟩ : ∃ y : Nat, x = y := ⟨x.toNat, by omega⟩
  rw [u64_nat (by omega), bit_i (by omega) (by omega), Int.toNat_natCast]
end Go.Proofs.Ythdoebgikbfndaa
end

/- Members of sets. -/
section
namespace Go.Proofs.Ythdoebgikbfndaa
open Go Go.RowKit E
set_option linter.unusedVariables false

end Go.Proofs.Ythdoebgikbfndaa
end

/- What a formula's nodes say by a letter and what comes next, by both. -/
section
namespace Go.Proofs.Ythdoebgikbfndaa
open Go Go.RowKit E
set_option linter.unusedVariables false

/-- What a node says. -/
def stL (l s : Nat) : List TNode → List Bool → Nat → List Bool
  | [], acc, _ => acc
  | n :: r, acc, k => stL l s r (acc ++ [soV n acc l (s.testBit k)]) (if n.kind ≥ 7 then k + 1 else k)
theorem stL_len (l s : Nat) : ∀ (r : List TNode) (acc : List Bool) (k : Nat), (stL l s r acc k).length = acc.length + r.length
  | [], acc, k => rfl
  | n :: r, acc, k => by rw [stL, stL_len l s r]; simp; omega
theorem spec_loop {e : List TNode} (he : Nodes ltP e) {l s : Nat} (hl : l ≤ 7) (hs : s < 2 ^ 31) : ∀ (r pre : List TNode) (acc : List Bool) (k : Nat), e = pre ++ r → acc.length = pre.length → k ≤ pre.length →
    loop (fun q : List Bool × Int × Int => spec_l9Step.b0 e (s : Int) (l : Int) q.1 q.2.1 q.2.2) (acc, (k : Int), (pre.length : Int)) = some (stL l s r acc k)
  | [], pre, acc, k, h, ha, hk => loop_end (by dsimp only; unfold spec_l9Step.b0; rw [if_neg (by rw [h]; simp)]; rfl)
  | n :: r, pre, acc, k, h, ha, hk => by
    have hlen : pre.length + (r.length + 1) = e.length := by rw [h]; simp
    have h31 := he.2.1
    have hn : NodeAt ltP pre.length n := by
      have := he.2.2 pre.length (by omega)
      rw [h] at this; simpa using this
    have hkd := ltKinds hn
    have w4 : W ((pre.length : Int) + 1) = (((pre ++ [n]).length : Nat) : Int) := by rw [W, W_eq (by omega) (by omega)]; simp
    have w5 : W ((k : Int) + 1) = ((k + 1 : Nat) : Int) := W_nat (by omega)
    have hix : ix e (pre.length : Int) = some n := by rw [h]; exact ix_mid pre n r
    have hh : spec_l1Has (s : Int) (k : Int) = some (s.testBit k) := by
      have := l1Has_eq hs (x := (k : Int)) (by omega)
      rw [Int.toNat_natCast] at this; exact this
    have step : ∀ k' : Nat, spec_l9Step.k1 n acc (pre.length : Int) (l : Int) (s.testBit k) (k' : Int) = some (.inl (acc ++ [soV n acc l (s.testBit k)], (k' : Int), (((pre ++ [n]).length : Nat) : Int))) := fun k' => by
      have fin : ∀ b : Bool, b = soV n acc l (s.testBit k) → spec_l9Step.k2 acc (k' : Int) (pre.length : Int) b = some (.inl (acc ++ [soV n acc l (s.testBit k)], (k' : Int), (((pre ++ [n]).length : Nat) : Int))) := fun b hb => by
        subst hb
        unfold spec_l9Step.k2
        rw [app_small (by simp; omega) (by omega), Option.bind_some, w4]
      have ga : 0 ≤ n.a → n.a < pre.length → ix acc n.a = some (acc.getD n.a.toNat default) := fun h0 h1 => ix_ok h0 (by omega)
      have gb : 0 ≤ n.b → n.b < pre.length → ix acc n.b = some (acc.getD n.b.toNat default) := fun h0 h1 => ix_ok h0 (by omega)
      unfold spec_l9Step.k1
      by_cases k1 : n.kind = 1
      · rw [if_pos k1]; exact fin _ (by unfold soV; rw [if_pos k1])
      rw [if_neg k1]
      by_cases k3 : n.kind = 3
      · rw [if_pos k3, decide_eq_true (by omega : 0 ≤ n.a), chk_t, Option.bind_some]
        refine fin _ ?_
        have hb := bit_i (a := l) (n := n.a.toNat) (by omega) (by omega)
        rw [show ((n.a.toNat : Nat) : Int) = n.a by omega] at hb
        rw [hb]; unfold soV; rw [if_neg k1, if_pos k3]
      rw [if_neg k3]
      by_cases k4 : n.kind = 4
      · rw [if_pos k4, ga (by omega) (by omega), Option.bind_some]; exact fin _ (by unfold soV; rw [if_neg k1, if_neg k3, if_pos k4])
      rw [if_neg k4]
      by_cases k5 : n.kind = 5
      · rw [if_pos k5, ga (by omega) (by omega), Option.bind_some]
        cases ha' : acc.getD n.a.toNat default with
        | true => rw [whenO_t, gb (by omega) (by omega), Option.bind_some]; exact fin _ (by unfold soV; rw [if_neg k1, if_neg k3, if_neg k4, if_pos k5, ha'])
        | false => rw [whenO_f, Option.bind_some]; exact fin _ (by unfold soV; rw [if_neg k1, if_neg k3, if_neg k4, if_pos k5, ha']; rfl)
      rw [if_neg k5]
      by_cases k6 : n.kind = 6
      · rw [if_pos k6, ga (by omega) (by omega), Option.bind_some]
        cases ha' : acc.getD n.a.toNat default with
        | false => rw [Bool.not_false, whenO_t, gb (by omega) (by omega), Option.bind_some]; exact fin _ (by unfold soV; rw [if_neg k1, if_neg k3, if_neg k4, if_neg k5, if_pos k6, ha'])
        | true => rw [Bool.not_true, whenO_f, Option.bind_some]; exact fin _ (by unfold soV; rw [if_neg k1, if_neg k3, if_neg k4, if_neg k5, if_pos k6, ha']; rfl)
      rw [if_neg k6]
      by_cases k7 : n.kind = 7
      · rw [if_pos k7]; exact fin _ (by unfold soV; rw [if_neg k1, if_neg k3, if_neg k4, if_neg k5, if_neg k6, if_pos k7])
      rw [if_neg k7]
      by_cases k8 : n.kind = 8
      · rw [if_pos k8, gb (by omega) (by omega), Option.bind_some]
        cases hb' : acc.getD n.b.toNat default with
        | false => rw [Bool.not_false, whenO_t, ga (by omega) (by omega), Option.bind_some]; exact fin _ (by unfold soV; rw [if_neg k1, if_neg k3, if_neg k4, if_neg k5, if_neg k6, if_neg k7, if_pos k8, hb'])
        | true => rw [Bool.not_true, whenO_f, Option.bind_some]; exact fin _ (by unfold soV; rw [if_neg k1, if_neg k3, if_neg k4, if_neg k5, if_neg k6, if_neg k7, if_pos k8, hb']; rfl)
      rw [if_neg k8]
      by_cases k9 : n.kind = 9
      · rw [if_pos k9, gb (by omega) (by omega), Option.bind_some]
        cases hb' : acc.getD n.b.toNat default with
        | true => rw [whenO_t, ga (by omega) (by omega), Option.bind_some]; exact fin _ (by unfold soV; rw [if_neg k1, if_neg k3, if_neg k4, if_neg k5, if_neg k6, if_neg k7, if_neg k8, if_pos k9, hb'])
        | false => rw [whenO_f, Option.bind_some]; exact fin _ (by unfold soV; rw [if_neg k1, if_neg k3, if_neg k4, if_neg k5, if_neg k6, if_neg k7, if_neg k8, if_pos k9, hb']; rfl)
      rw [if_neg k9]
      by_cases k10 : n.kind = 10
      · rw [if_pos k10, ga (by omega) (by omega), Option.bind_some]; exact fin _ (by unfold soV; rw [if_neg k1, if_neg k3, if_neg k4, if_neg k5, if_neg k6, if_neg k7, if_neg k8, if_neg k9, if_pos k10])
      rw [if_neg k10]
      by_cases k11 : n.kind = 11
      · rw [if_pos k11, ga (by omega) (by omega), Option.bind_some]; exact fin _ (by unfold soV; rw [if_neg k1, if_neg k3, if_neg k4, if_neg k5, if_neg k6, if_neg k7, if_neg k8, if_neg k9, if_neg k10, if_pos k11])
      rw [if_neg k11]
      exact fin _ (by unfold soV; rw [if_neg k1, if_neg k3, if_neg k4, if_neg k5, if_neg k6, if_neg k7, if_neg k8, if_neg k9, if_neg k10, if_neg k11])
    have ih := spec_loop he hl hs r (pre ++ [n]) (acc ++ [soV n acc l (s.testBit k)]) (if n.kind ≥ 7 then k + 1 else k) (by rw [h]; simp) (by simp [ha]) (by split <;> simp <;> omega)
    rw [loop_go (s' := (acc ++ [soV n acc l (s.testBit k)], (((if n.kind ≥ 7 then k + 1 else k : Nat)) : Int), (((pre ++ [n]).length : Nat) : Int)))]
    · exact ih
    · dsimp only; unfold spec_l9Step.b0
      rw [if_pos (by omega), hix, Option.bind_some, hh, Option.bind_some]
      by_cases c : n.kind ≥ 7
      · rw [if_pos c, if_pos c, w5]; exact step (k + 1)
      · rw [if_neg c, if_neg c]; exact step k
/-- The first place of a number in a list. -/
theorem index_at {v : Int} : ∀ (a b pre : List Int), (∀ x ∈ a, x ≠ v) → pre.length + a.length + b.length ≤ 1000000 → loop (fun s : Int => slices_Index_int_int.b0 (pre ++ (a ++ v :: b)) v s) (pre.length : Int) = some (.inr ((pre.length + a.length : Nat) : Int))
  | [], b, pre, _, hl => loop_end (by unfold slices_Index_int_int.b0; rw [if_pos (by simp; omega), List.nil_append, ix_mid, Option.bind_some, if_pos rfl]; rfl)
  | x :: a, b, pre, h, hl => by
    have ih := index_at a b (pre ++ [x]) (fun y hy => h y (List.mem_cons_of_mem _ hy)) (by simp at hl ⊢; omega)
    have w4 : W ((pre.length : Int) + 1) = (((pre ++ [x]).length : Nat) : Int) := by rw [W, W_eq (by omega) (by omega)]; simp
    rw [loop_go (s' := (((pre ++ [x]).length : Nat) : Int))]
    · rw [List.append_assoc, List.singleton_append] at ih
      rw [List.cons_append, ih]
      simp; omega
    · unfold slices_Index_int_int.b0
      rw [if_pos (by simp; omega), List.cons_append, ix_mid, Option.bind_some, if_neg (fun e => h x List.mem_cons_self e.symm), w4]
theorem index_no {v : Int} : ∀ (a pre : List Int), (∀ x ∈ a, x ≠ v) → pre.length + a.length ≤ 1000000 → loop (fun s : Int => slices_Index_int_int.b0 (pre ++ a) v s) (pre.length : Int) = some (.inl ())
  | [], pre, _, hl => loop_end (by unfold slices_Index_int_int.b0; rw [if_neg (by simp)])
  | x :: a, pre, h, hl => by
    have ih := index_no a (pre ++ [x]) (fun y hy => h y (List.mem_cons_of_mem _ hy)) (by simp at hl ⊢; omega)
    have w4 : W ((pre.length : Int) + 1) = (((pre ++ [x]).length : Nat) : Int) := by rw [W, W_eq (by omega) (by omega)]; simp
    rw [loop_go (s' := (((pre ++ [x]).length : Nat) : Int))]
    · rw [List.append_assoc, List.singleton_append] at ih
      exact ih
    · unfold slices_Index_int_int.b0
      rw [if_pos (by simp; omega), ix_mid, Option.bind_some, if_neg (fun e => h x List.mem_cons_self e.symm), w4]
theorem tempL_app : ∀ (a b : List TNode) (k : Nat), tempL k (a ++ b) = tempL k a ++ tempL (k + a.length) b
  | [], b, k => by simp [tempL]
  | n :: a, b, k => by
    have e : k + 1 + a.length = k + (a.length + 1) := by omega
    simp only [List.cons_append, tempL, tempL_app a b (k + 1), List.length_cons, e]
    split <;> simp
theorem tempL_rng : ∀ (a : List TNode) (k : Nat), ∀ x ∈ tempL k a, (k : Int) ≤ x ∧ x < (k : Int) + a.length
  | [], k, x, h => by simp [tempL] at h
  | n :: a, k, x, h => by
    unfold tempL at h
    rw [List.length_cons]
    split at h
    · rcases List.mem_cons.mp h with rfl | h
      · omega
      · have := tempL_rng a (k + 1) x h; omega
    · have := tempL_rng a (k + 1) x h; omega
theorem index_temp {e pre r : List TNode} {n : TNode} (h : e = pre ++ n :: r) (hl : e.length ≤ 31) : slices_Index_int_int (tempL 0 e) (pre.length : Int) = some (if n.kind ≥ 7 then ((tempL 0 pre).length : Int) else -1) := by
  have hlen : pre.length + (r.length + 1) = e.length := by rw [h]; simp
  have l1 := tempL_len pre 0
  have l2 := tempL_len r (pre.length + 1)
  unfold slices_Index_int_int
  have e1 : tempL 0 e = tempL 0 pre ++ tempL pre.length (n :: r) := by rw [h, tempL_app, Nat.zero_add]
  by_cases c : n.kind ≥ 7
  · have e2 : tempL pre.length (n :: r) = (pre.length : Int) :: tempL (pre.length + 1) r := by simp [tempL, c]
    have := index_at (v := (pre.length : Int)) (tempL 0 pre) (tempL (pre.length + 1) r) [] (fun x hx => by have := tempL_rng pre 0 x hx; omega) (by simp; omega)
    rw [List.nil_append, List.length_nil, Nat.zero_add] at this
    rw [e1, e2, if_pos c]
    have h2 : loop (fun s : Int => slices_Index_int_int.b0 (tempL 0 pre ++ (pre.length : Int) :: tempL (pre.length + 1) r) (pre.length : Int) s) 0 = _ := this
    rw [h2]; rfl
  · have e2 : tempL pre.length (n :: r) = tempL (pre.length + 1) r := by simp [tempL, c]
    have := index_no (v := (pre.length : Int)) (tempL 0 pre ++ tempL (pre.length + 1) r) [] (fun x hx => by
      rcases List.mem_append.mp hx with hx | hx
      · have := tempL_rng pre 0 x hx; omega
      · have := tempL_rng r (pre.length + 1) x hx; omega) (by simp; omega)
    rw [List.nil_append] at this
    rw [e1, e2, if_neg c]
    have h2 : loop (fun s : Int => slices_Index_int_int.b0 (tempL 0 pre ++ tempL (pre.length + 1) r) (pre.length : Int) s) 0 = _ := this
    rw [h2]; rfl
theorem impl_loop {e : List TNode} (he : Nodes ltP e) {l s : Nat} (hl : l ≤ 7) (hs : s < 2 ^ 31) : ∀ (r pre : List TNode) (acc : List Bool) (k : Nat), e = pre ++ r → acc.length = pre.length → k = (tempL 0 pre).length →
    loop (fun q : List Bool × Int => impl_stepOf.b0 e (tempL 0 e) (l : Int) (s : Int) q.1 q.2) (acc ++ List.replicate r.length false, (pre.length : Int)) = some (stL l s r acc k)
  | [], pre, acc, k, h, ha, hk => loop_end (by dsimp only; unfold impl_stepOf.b0; rw [if_neg (by rw [h]; simp)]; simp [stL])
  | n :: r, pre, acc, k, h, ha, hk => by
    have hlen : pre.length + (r.length + 1) = e.length := by rw [h]; simp
    have h31 := he.2.1
    have l1 := tempL_len pre 0
    have hn : NodeAt ltP pre.length n := by
      have := he.2.2 pre.length (by omega)
      rw [h] at this; simpa using this
    have hkd := ltKinds hn
    have w4 : W ((pre.length : Int) + 1) = (((pre ++ [n]).length : Nat) : Int) := by rw [W, W_eq (by omega) (by omega)]; simp
    have hix : ix e (pre.length : Int) = some n := by rw [h]; exact ix_mid pre n r
    have hidx := index_temp h h31
    rw [← hk] at hidx
    have hlen2 : (acc ++ List.replicate (n :: r).length false).length = e.length := by simp; omega
    have gx : ∀ x : Int, 0 ≤ x → x < pre.length → ix (acc ++ List.replicate (n :: r).length false) x = some (acc.getD x.toNat default) := fun x h0 h1 => by
      rw [ix_ok h0 (by rw [hlen2]; omega), List.getD_eq_getElem?_getD, List.getElem?_append_left (by omega), ← List.getD_eq_getElem?_getD]
    have hso : ∀ nx : Bool, (n.kind ≥ 7 → nx = s.testBit k) → impl_soBy n (acc ++ List.replicate (n :: r).length false) (l : Int) nx = some (soV n acc l (s.testBit k)) := fun nx hnx => by
      unfold impl_soBy
      by_cases k7 : n.kind = 7
      · rw [if_pos k7, hnx (by omega)]; unfold soV; rw [if_neg (by omega), if_neg (by omega), if_neg (by omega), if_neg (by omega), if_neg (by omega), if_pos k7]
      rw [if_neg k7]
      by_cases k8 : n.kind = 8
      · rw [if_pos k8, gx _ (by omega) (by omega), Option.bind_some, hnx (by omega)]; unfold soV
        rw [if_neg (by omega), if_neg (by omega), if_neg (by omega), if_neg (by omega), if_neg (by omega), if_neg k7, if_pos k8]
        cases acc.getD n.b.toNat default with
        | false => rw [Bool.not_false, whenO_t, gx _ (by omega) (by omega)]; rfl
        | true => rfl
      rw [if_neg k8]
      by_cases k9 : n.kind = 9
      · rw [if_pos k9, gx _ (by omega) (by omega), Option.bind_some, hnx (by omega)]; unfold soV
        rw [if_neg (by omega), if_neg (by omega), if_neg (by omega), if_neg (by omega), if_neg (by omega), if_neg k7, if_neg k8, if_pos k9]
        cases acc.getD n.b.toNat default with
        | true => rw [whenO_t, gx _ (by omega) (by omega)]; rfl
        | false => rfl
      rw [if_neg k9]
      by_cases k10 : n.kind = 10
      · rw [if_pos k10, gx _ (by omega) (by omega), Option.bind_some, hnx (by omega)]; unfold soV
        rw [if_neg (by omega), if_neg (by omega), if_neg (by omega), if_neg (by omega), if_neg (by omega), if_neg k7, if_neg k8, if_neg k9, if_pos k10]
      rw [if_neg k10]
      by_cases k11 : n.kind = 11
      · rw [if_pos k11, gx _ (by omega) (by omega), Option.bind_some, hnx (by omega)]; unfold soV
        rw [if_neg (by omega), if_neg (by omega), if_neg (by omega), if_neg (by omega), if_neg (by omega), if_neg k7, if_neg k8, if_neg k9, if_neg k10, if_pos k11]
      rw [if_neg k11]
      unfold impl_plain soV
      by_cases k1 : n.kind = 1
      · rw [if_pos k1, if_pos k1]; rfl
      rw [if_neg k1, if_neg k1]
      by_cases k3 : n.kind = 3
      · rw [if_pos k3, if_pos k3, has_eq (by have : (2 : Nat) ^ 31 = 2147483648 := rfl; omega) (by omega)]; rfl
      rw [if_neg k3, if_neg k3]
      by_cases k4 : n.kind = 4
      · rw [if_pos k4, if_pos k4, gx _ (by omega) (by omega)]; rfl
      rw [if_neg k4, if_neg k4]
      by_cases k5 : n.kind = 5
      · rw [if_pos k5, if_pos k5, gx _ (by omega) (by omega), Option.bind_some]
        cases acc.getD n.a.toNat default with
        | true => rw [whenO_t, gx _ (by omega) (by omega)]; rfl
        | false => rfl
      rw [if_neg k5, if_neg k5]
      by_cases k6 : n.kind = 6
      · rw [if_pos k6, if_pos k6, gx _ (by omega) (by omega), Option.bind_some]
        cases acc.getD n.a.toNat default with
        | false => rw [Bool.not_false, whenO_t, gx _ (by omega) (by omega)]; rfl
        | true => rfl
      rw [if_neg k6, if_neg k6, if_neg k7, if_neg k8, if_neg k9, if_neg k10, if_neg k11]; rfl
    have e3 : (if n.kind ≥ 7 then k + 1 else k) = (tempL 0 (pre ++ [n])).length := by
      rw [tempL_app, List.length_append, ← hk]
      simp only [tempL]
      split <;> simp
    have ih := impl_loop he hl hs r (pre ++ [n]) (acc ++ [soV n acc l (s.testBit k)]) (if n.kind ≥ 7 then k + 1 else k) (by rw [h]; simp) (by simp [ha]) e3
    rw [loop_go (s' := (acc ++ [soV n acc l (s.testBit k)] ++ List.replicate r.length false, (((pre ++ [n]).length : Nat) : Int)))]
    · exact ih
    · dsimp only; unfold impl_stepOf.b0
      rw [if_pos (by omega), hix, Option.bind_some, hidx, Option.bind_some, bnd_eq]
      rw [hso _ (fun c => by
        rw [if_pos c, decide_eq_true (by omega : ((k : Nat) : Int) ≥ 0), Bool.true_and]
        have := has_eq hs (x := (k : Int)) (by omega)
        rw [Int.toNat_natCast] at this; exact this), Option.bind_some, ck_nat (by rw [hlen2]; omega), Option.bind_some, w4]
      rw [List.length_cons, List.replicate_succ, ← ha, set_mid]
      simp
theorem l9Step_eq {e : List TNode} (he : Nodes ltP e) {l s : Nat} (hl : l ≤ 7) (hs : s < 2 ^ 31) : spec_l9Step e (l : Int) (s : Int) = some (stL l s e [] 0) := by
  unfold spec_l9Step
  have h1 := spec_loop he (l := l) (s := s) hl hs e [] [] 0 rfl rfl (Nat.le_refl _)
  have h2 : loop (fun q : List Bool × Int × Int => spec_l9Step.b0 e s l q.1 q.2.1 q.2.2) ([], 0, 0) = _ := h1
  rw [h2]; rfl
theorem temporal_eq {e : List TNode} (he : e.length ≤ 31) : impl_temporal e = some (tempL 0 e) := by
  unfold impl_temporal
  have ht := temp_loop (body := fun s : List Int × Int => impl_temporal.b0 e s.1 s.2) e he (fun y x => rfl) e [] [] rfl (by simp)
  have ht2 : loop (fun s : List Int × Int => impl_temporal.b0 e s.1 s.2) ([], 0) = some (tempL 0 e) := ht
  rw [ht2]; rfl
theorem stepOf_eq {e : List TNode} (he : Nodes ltP e) {l s : Nat} (hl : l ≤ 7) (hs : s < 2 ^ 31) : impl_stepOf e (l : Int) (s : Int) = some (stL l s e [] 0) := by
  have h31 := he.2.1
  unfold impl_stepOf
  rw [mk_ok (by omega) (by omega), Option.bind_some, temporal_eq h31, Option.bind_some, Int.toNat_natCast]
  have h1 := impl_loop he (l := l) (s := s) hl hs e [] [] 0 rfl rfl rfl
  have h2 : loop (fun q : List Bool × Int => impl_stepOf.b0 e (tempL 0 e) l s q.1 q.2) (List.replicate e.length false, 0) = _ := h1
  rw [h2]; rfl
end Go.Proofs.Ythdoebgikbfndaa
end

/- A bit. -/
section
namespace Go.Proofs.Ythdoebgikbfndaa
open Go Go.RowKit E
set_option linter.unusedVariables false

theorem only_eq {n : Nat} (h : n ≤ 31) : impl_only (n : Int) = ((2 ^ n : Nat) : Int) := by
  unfold impl_only
  rw [u64_nat (by omega), shl1_i (by omega)]
end Go.Proofs.Ythdoebgikbfndaa
end

/- Loops that ask whether all are so. -/
section
namespace Go.Proofs.Ythdoebgikbfndaa
open Go Go.RowKit E
set_option linter.unusedVariables false

theorem inRg (x a b : Int) : impl_inRange x a b = decide (a ≤ x ∧ x ≤ b) := inR
theorem l1Rg (x a b : Int) : spec_l1In x a b = decide (a ≤ x ∧ x ≤ b) := inR
theorem WN {k : Nat} (h : k < 9223372036854775807) : W ((k : Int) + 1) = ((k + 1 : Nat) : Int) := W_nat h
/-- A loop that asks each place. -/
theorem all_loop {body : Int → Option (Int ⊕ (Unit ⊕ Bool))} (n : Nat) (c : Nat → Bool) (go : ∀ k, k < n → body (k : Int) = some (if c k = true then .inl ((k + 1 : Nat) : Int) else .inr (.inr false))) (fin : body (n : Int) = some (.inr (.inl ()))) : loop body 0 = some (if (List.range n).all c = true then .inl () else .inr false) := by
  have key : ∀ d k, k + d = n → (∀ j, j < k → c j = true) → loop body (k : Int) = some (if (List.range n).all c = true then .inl () else .inr false) := by
    intro d
    induction d with
    | zero =>
      intro k hk he
      obtain rfl : k = n := by omega
      rw [if_pos (List.all_eq_true.mpr fun x hx => he x (List.mem_range.mp hx))]
      exact loop_end fin
    | succ d ih =>
      intro k hk he
      by_cases h : c k = true
      · rw [loop_go (s' := ((k + 1 : Nat) : Int)) (by rw [go k (by omega), if_pos h])]
        refine ih (k + 1) (by omega) fun j hj => ?_
        by_cases e : j = k
        · rw [e]; exact h
        · exact he j (by omega)
      · rw [if_neg (fun g => h (List.all_eq_true.mp g k (List.mem_range.mpr (by omega))))]
        exact loop_end (by rw [go k (by omega), if_neg h])
  exact key n 0 (by omega) (fun j hj => absurd hj (by omega))
end Go.Proofs.Ythdoebgikbfndaa
end

/- What a step says of the nodes of time: what must have been promised, and its marks. -/
section
namespace Go.Proofs.Ythdoebgikbfndaa
open Go Go.RowKit E
set_option linter.unusedVariables false

/-- A place of a node of time. -/
structure TM (e : List TNode) (x : Int) : Prop where
  ge : 0 ≤ x
  lt : x < e.length
  kind : 7 ≤ (e.getD x.toNat default).kind ∧ (e.getD x.toNat default).kind ≤ 11
  a : 0 ≤ (e.getD x.toNat default).a ∧ (e.getD x.toNat default).a < e.length
  b : 0 ≤ (e.getD x.toNat default).b ∧ (e.getD x.toNat default).b < e.length
theorem tempL_mem : ∀ (r : List TNode) (k : Nat), ∀ x ∈ tempL k r, ∃ j, j < r.length ∧ x = ((k + j : Nat) : Int) ∧ (r.getD j default).kind ≥ 7
  | [], _, x, h => by simp [tempL] at h
  | n :: r, k, x, h => by
    unfold tempL at h
    have go : x ∈ tempL (k + 1) r → ∃ j, j < (n :: r).length ∧ x = ((k + j : Nat) : Int) ∧ ((n :: r).getD j default).kind ≥ 7 := fun h => by
      obtain ⟨j, h1, h2, h3⟩ := tempL_mem r (k + 1) x h
      exact ⟨j + 1, by simp; omega, by rw [h2]; congr 1; omega, by simpa using h3⟩
    split at h
    · rename_i c
      rcases List.mem_cons.mp h with rfl | h
      · exact ⟨0, by simp, by simp, by simpa using c⟩
      · exact go h
    · exact go h
theorem tempL_tm {e : List TNode} (he : Nodes ltP e) : ∀ x ∈ tempL 0 e, TM e x := fun x hx => by
  obtain ⟨j, h1, h2, h3⟩ := tempL_mem e 0 x hx
  rw [Nat.zero_add] at h2
  subst h2
  have hk := ltKinds (he.2.2 j h1)
  refine ⟨by omega, by omega, ?_, ?_, ?_⟩ <;> rw [Int.toNat_natCast] <;> omega

def nowV (e : List TNode) (so : List Bool) (x : Int) : Bool := if (e.getD x.toNat default).kind = 7 then so.getD (e.getD x.toNat default).a.toNat default else so.getD x.toNat default
def mrkV (e : List TNode) (so : List Bool) (x : Int) : Bool :=
  if (e.getD x.toNat default).kind = 8 then !(so.getD x.toNat default) || so.getD (e.getD x.toNat default).b.toNat default
  else if (e.getD x.toNat default).kind = 10 then !(so.getD x.toNat default) || so.getD (e.getD x.toNat default).a.toNat default
  else if (e.getD x.toNat default).kind = 9 then so.getD x.toNat default || !(so.getD (e.getD x.toNat default).b.toNat default)
  else if (e.getD x.toNat default).kind = 11 then so.getD x.toNat default || !(so.getD (e.getD x.toNat default).a.toNat default) else true
def bitsF (f : Int → Bool) : List Int → Nat → Nat → Nat
  | [], _, s => s
  | x :: r, k, s => bitsF f r (k + 1) (if f x = true then s ||| 2 ^ k else s)
theorem bit_step {s k : Nat} (b : Bool) (hs : s < 2 ^ k) : (if b = true then s ||| 2 ^ k else s) < 2 ^ (k + 1) := by
  have h2 : (2 : Nat) ^ k < 2 ^ (k + 1) := Nat.pow_lt_pow_right (by omega) (by omega)
  split
  · exact Nat.or_lt_two_pow (by omega) h2
  · omega
theorem bitsF_lt (f : Int → Bool) : ∀ (r : List Int) (k s : Nat), s < 2 ^ k → bitsF f r k s < 2 ^ (k + r.length)
  | [], k, s, h => by simpa [bitsF] using h
  | x :: r, k, s, h => by
    have := bitsF_lt f r (k + 1) _ (bit_step (f x) h)
    rw [List.length_cons, show k + (r.length + 1) = k + 1 + r.length by omega]
    exact this
theorem ixB {so : List Bool} {x : Int} (h0 : 0 ≤ x) (h : x < so.length) : ix so x = some (so.getD x.toNat default) := by
  obtain ⟨i, rfl⟩ : ∃ i : Nat, x = i := ⟨x.toNat, by omega⟩
  rw [Int.toNat_natCast]; exact ix_nat (by omega)
theorem ixN {so : List TNode} {x : Int} (h0 : 0 ≤ x) (h : x < so.length) : ix so x = some (so.getD x.toNat default) := by
  obtain ⟨i, rfl⟩ : ∃ i : Nat, x = i := ⟨x.toNat, by omega⟩
  rw [Int.toNat_natCast]; exact ix_nat (by omega)
theorem put_bit {s k : Nat} (hk : k ≤ 30) (hs : s < 2 ^ k) : bOr .i64 (s : Int) ((2 ^ k : Nat) : Int) = ((s ||| 2 ^ k : Nat) : Int) := by
  have : (2 : Nat) ^ k ≤ 2 ^ 30 := Nat.pow_le_pow_right (by omega) hk
  exact bOr_i (by omega) (by omega)

theorem told_loop {e : List TNode} {so : List Bool} (hs : so.length = e.length) {ts : List Int} (hl : ts.length ≤ 30) (ht : ∀ x ∈ ts, TM e x) : ∀ (r pre : List Int) (s : Nat), ts = pre ++ r → s < 2 ^ pre.length →
    loop (fun q : Int × Int => impl_toldBy.b0 ts e so q.1 q.2) ((s : Int), (pre.length : Int)) = some ((bitsF (nowV e so) r pre.length s : Nat) : Int)
  | [], pre, s, h, _ => loop_end (by dsimp only; unfold impl_toldBy.b0; rw [if_neg (by rw [h]; simp)]; rfl)
  | x :: r, pre, s, h, hb => by
    have hlen : pre.length + (r.length + 1) = ts.length := by rw [h]; simp
    have tm := ht x (by rw [h]; simp)
    have w4 : W ((pre.length : Int) + 1) = (((pre ++ [x]).length : Nat) : Int) := by rw [W, W_eq (by omega) (by omega)]; simp
    have hix : ix ts (pre.length : Int) = some x := by rw [h]; exact ix_mid pre x r
    have ih := told_loop hs hl ht r (pre ++ [x]) (if nowV e so x = true then s ||| 2 ^ pre.length else s) (by rw [h]; simp) (by rw [List.length_append, List.length_singleton]; exact bit_step _ hb)
    rw [loop_go (s' := (((if nowV e so x = true then s ||| 2 ^ pre.length else s : Nat) : Int), (((pre ++ [x]).length : Nat) : Int)))]
    · rw [ih, bitsF]; simp
    · have h1 := tm.ge; have h2 := tm.lt; have h3 := tm.a
      dsimp only; unfold impl_toldBy.b0
      rw [if_pos (by omega), hix, Option.bind_some, ixN h1 h2, Option.bind_some]
      unfold impl_toldBy.k1 nowV
      rw [w4, only_eq (by omega), put_bit (by omega) hb]
      by_cases c : (e.getD x.toNat default).kind = 7
      · rw [if_pos c, Option.bind_some, ixB h3.1 (by omega), Option.bind_some, if_pos c]
        split <;> rfl
      · rw [if_neg c, ixB h1 (by omega), Option.bind_some, if_neg c]
        split <;> rfl
theorem toldBy_eq {e : List TNode} {so : List Bool} (hs : so.length = e.length) {ts : List Int} (hl : ts.length ≤ 30) (ht : ∀ x ∈ ts, TM e x) : impl_toldBy e ts so = some ((bitsF (nowV e so) ts 0 0 : Nat) : Int) := by
  unfold impl_toldBy
  have h := told_loop hs hl ht ts [] 0 rfl (by simp)
  have h2 : loop (fun q : Int × Int => impl_toldBy.b0 ts e so q.1 q.2) (0, 0) = _ := h
  rw [h2]; rfl
theorem marks_loop {e : List TNode} {so : List Bool} (hs : so.length = e.length) {ts : List Int} (hl : ts.length ≤ 30) (ht : ∀ x ∈ ts, TM e x) : ∀ (r pre : List Int) (s : Nat), ts = pre ++ r → s < 2 ^ pre.length →
    loop (fun q : Int × Int => impl_marksOf.b0 ts e so q.1 q.2) ((s : Int), (pre.length : Int)) = some ((bitsF (mrkV e so) r pre.length s : Nat) : Int)
  | [], pre, s, h, _ => loop_end (by dsimp only; unfold impl_marksOf.b0; rw [if_neg (by rw [h]; simp)]; rfl)
  | x :: r, pre, s, h, hb => by
    have hlen : pre.length + (r.length + 1) = ts.length := by rw [h]; simp
    have tm := ht x (by rw [h]; simp)
    have w4 : W ((pre.length : Int) + 1) = (((pre ++ [x]).length : Nat) : Int) := by rw [W, W_eq (by omega) (by omega)]; simp
    have hix : ix ts (pre.length : Int) = some x := by rw [h]; exact ix_mid pre x r
    have ih := marks_loop hs hl ht r (pre ++ [x]) (if mrkV e so x = true then s ||| 2 ^ pre.length else s) (by rw [h]; simp) (by rw [List.length_append, List.length_singleton]; exact bit_step _ hb)
    rw [loop_go (s' := (((if mrkV e so x = true then s ||| 2 ^ pre.length else s : Nat) : Int), (((pre ++ [x]).length : Nat) : Int)))]
    · rw [ih, bitsF]; simp
    · have h1 := tm.ge; have h2 := tm.lt; have h3 := tm.a; have h4 := tm.b
      dsimp only; unfold impl_marksOf.b0
      rw [if_pos (by omega), hix, Option.bind_some, ixN h1 h2, Option.bind_some]
      unfold impl_marksOf.k1 mrkV
      simp only [w4, only_eq (n := pre.length) (by omega), put_bit (k := pre.length) (by omega) hb, ixB h1 (by omega : x < so.length), ixB h3.1 (by omega : (e.getD x.toNat default).a < so.length), ixB h4.1 (by omega : (e.getD x.toNat default).b < so.length), Option.bind_some, bnd_eq]
      generalize so.getD x.toNat default = u
      generalize so.getD (e.getD x.toNat default).a.toNat default = ua
      generalize so.getD (e.getD x.toNat default).b.toNat default = ub
      generalize (e.getD x.toNat default).kind = kd
      by_cases c8 : kd = 8
      · subst c8; cases u <;> cases ub <;> rfl
      by_cases c10 : kd = 10
      · subst c10; cases u <;> cases ua <;> rfl
      by_cases c9 : kd = 9
      · subst c9; cases u <;> cases ub <;> rfl
      by_cases c11 : kd = 11
      · subst c11; cases u <;> cases ua <;> rfl
      simp only [if_neg c8, if_neg c10, if_neg c9, if_neg c11]; rfl
theorem marksOf_eq {e : List TNode} {so : List Bool} (hs : so.length = e.length) {ts : List Int} (hl : ts.length ≤ 30) (ht : ∀ x ∈ ts, TM e x) : impl_marksOf e ts so = some ((bitsF (mrkV e so) ts 0 0 : Nat) : Int) := by
  unfold impl_marksOf
  have h := marks_loop hs hl ht ts [] 0 rfl (by simp)
  have h2 : loop (fun q : Int × Int => impl_marksOf.b0 ts e so q.1 q.2) (0, 0) = _ := h
  rw [h2]; rfl
theorem bits_loop {e : List TNode} {so : List Bool} (hs : so.length = e.length) {ts : List Int} (hl : ts.length ≤ 30) (ht : ∀ x ∈ ts, TM e x) : ∀ (r pre : List Int) (s m : Nat), ts = pre ++ r → s < 2 ^ pre.length → m < 2 ^ pre.length →
    loop (fun q : Int × Int × Int => spec_l10Bits.b0 ts e so q.1 q.2.1 q.2.2) ((s : Int), (m : Int), (pre.length : Int)) = some (((bitsF (nowV e so) r pre.length s : Nat) : Int), ((bitsF (mrkV e so) r pre.length m : Nat) : Int))
  | [], pre, s, m, h, _, _ => loop_end (by dsimp only; unfold spec_l10Bits.b0; rw [if_neg (by rw [h]; simp)]; rfl)
  | x :: r, pre, s, m, h, hb, hm => by
    have hlen : pre.length + (r.length + 1) = ts.length := by rw [h]; simp
    have tm := ht x (by rw [h]; simp)
    have w4 : W ((pre.length : Int) + 1) = (((pre ++ [x]).length : Nat) : Int) := by rw [W, W_eq (by omega) (by omega)]; simp
    have hix : ix ts (pre.length : Int) = some x := by rw [h]; exact ix_mid pre x r
    have ih := bits_loop hs hl ht r (pre ++ [x]) (if nowV e so x = true then s ||| 2 ^ pre.length else s) (if mrkV e so x = true then m ||| 2 ^ pre.length else m) (by rw [h]; simp) (by rw [List.length_append, List.length_singleton]; exact bit_step _ hb) (by rw [List.length_append, List.length_singleton]; exact bit_step _ hm)
    rw [loop_go (s' := (((if nowV e so x = true then s ||| 2 ^ pre.length else s : Nat) : Int), ((if mrkV e so x = true then m ||| 2 ^ pre.length else m : Nat) : Int), (((pre ++ [x]).length : Nat) : Int)))]
    · rw [ih]; simp [bitsF]
    · have h1 := tm.ge; have h2 := tm.lt; have h3 := tm.a; have h4 := tm.b; have h5 := tm.kind
      dsimp only; unfold spec_l10Bits.b0
      have lb := l1Bit_eq (x := (pre.length : Int)) (by omega)
      rw [Int.toNat_natCast] at lb
      rw [if_pos (by omega)]
      unfold spec_l10Bits.k1 spec_l10Bits.k2 mrkV nowV
      simp only [hix, Option.bind_some, ixN h1 h2, w4, lb, put_bit (k := pre.length) (by omega) hb, put_bit (k := pre.length) (by omega) hm, ixB h1 (by omega : x < so.length), ixB h3.1 (by omega : (e.getD x.toNat default).a < so.length), ixB h4.1 (by omega : (e.getD x.toNat default).b < so.length), bnd_eq]
      generalize so.getD x.toNat default = u
      generalize so.getD (e.getD x.toNat default).a.toNat default = ua
      generalize so.getD (e.getD x.toNat default).b.toNat default = ub
      generalize (e.getD x.toNat default).kind = kd at h5
      have : kd = 7 ∨ kd = 8 ∨ kd = 9 ∨ kd = 10 ∨ kd = 11 := by omega
      rcases this with rfl | rfl | rfl | rfl | rfl <;> cases u <;> cases ua <;> cases ub <;> rfl
theorem l10Bits_eq {e : List TNode} {so : List Bool} (hs : so.length = e.length) {ts : List Int} (hl : ts.length ≤ 30) (ht : ∀ x ∈ ts, TM e x) : spec_l10Bits e ts so = some (((bitsF (nowV e so) ts 0 0 : Nat) : Int), ((bitsF (mrkV e so) ts 0 0 : Nat) : Int)) := by
  unfold spec_l10Bits
  have h := bits_loop hs hl ht ts [] 0 0 rfl (by simp) (by simp)
  have h2 : loop (fun q : Int × Int × Int => spec_l10Bits.b0 ts e so q.1 q.2.1 q.2.2) (0, 0, 0) = _ := h
  rw [h2]; rfl
end Go.Proofs.Ythdoebgikbfndaa
end

/- Sorting comes to the one row in strict order that holds the same. -/
section
namespace Go.Proofs.Ythdoebgikbfndaa
open Go Go.RowKit E
set_option linter.unusedVariables false

/-- What is in strict order and holds the same is what sorting comes to. -/
theorem sortBy_eq {α : Type} [Inhabited α] {g : α → α → Option Int} {lt : α → α → Bool} (hg : ∀ a b, ∃ x, g a b = some x ∧ (x < 0 ↔ lt a b = true))
    (irr : ∀ a, lt a a = false) (tr : ∀ a b c, lt a b = true → lt b c = true → lt a c = true) (nt : ∀ a b c, lt a b = false → lt b c = false → lt a c = false)
    {l s : List α} (hs : s.Pairwise fun a b => lt a b = true) (hp : s.Perm l) (hl : l.length < 4611686018427387904) : sortBy l g = some s := by
  have hlt : ∀ a b, ltG g a b = lt a b := fun a b => by
    obtain ⟨x, h1, h2⟩ := hg a b
    unfold ltG
    rw [h1, Bool.eq_iff_iff, decide_eq_true_eq]
    exact h2
  have e : ltG g = lt := funext fun a => funext fun b => hlt a b
  obtain ⟨r, hr⟩ := sortBy_some (l := l) (g := g) (fun a b h => by obtain ⟨x, h1, _⟩ := hg a b; rw [h1] at h; cases h) (by rw [e]; exact ⟨irr, tr, nt⟩) hl
  obtain ⟨h1, h2⟩ := sortBy_spec hr
  have hrs : r = s := by
    refine List.Perm.eq_of_pairwise (le := fun a b => lt b a = false) ?_ ?_ ?_ (h1.trans hp.symm)
    · intro a b ha hb hab hba
      have ha' : a ∈ s := hp.mem_iff.mpr (h1.mem_iff.mp ha)
      have key : ∀ {t : List α}, t.Pairwise (fun a b => lt a b = true) → a ∈ t → b ∈ t → a = b := by
        intro t ht
        induction ht with
        | nil => intro h; cases h
        | cons hx _ ih =>
          intro m1 m2
          rcases List.mem_cons.mp m1 with e1 | k1
          · rcases List.mem_cons.mp m2 with e2 | k2
            · rw [e1, e2]
            · rw [e1, hx b k2] at hba; cases hba
          · rcases List.mem_cons.mp m2 with e2 | k2
            · rw [e2, hx a k1] at hab; cases hab
            · exact ih k1 k2
      exact key hs ha' hb
    · rw [List.pairwise_iff_getElem]
      intro i j hi hj hij
      rw [← hlt]
      exact h2 i j hi hj hij
    · refine hs.imp fun {a b} h => ?_
      cases h' : lt b a with
      | false => rfl
      | true => rw [← irr a, tr a b a h h']
  rw [hr, hrs]
end Go.Proofs.Ythdoebgikbfndaa
end

/- Numbers compared. -/
section
namespace Go.Proofs.Ythdoebgikbfndaa
open Go Go.RowKit E
set_option linter.unusedVariables false

theorem cmpInt_eq (x y : Int) : cmp_Compare_int x y = if x < y then -1 else if x > y then 1 else 0 := by
  unfold cmp_Compare_int cmp_isNaN_int
  rw [if_neg (by simp), if_neg (by simp)]
theorem cmpOr_eq (x y z : Int) : cmp_Or_int [x, y, z] = some (if x ≠ 0 then x else if y ≠ 0 then y else z) := by
  unfold cmp_Or_int
  have i0 : ix [x, y, z] (0 : Int) = some x := rfl
  have i1 : ix [x, y, z] (1 : Int) = some y := rfl
  have i2 : ix [x, y, z] (2 : Int) = some z := rfl
  have w0 : W (0 + 1) = 1 := by decide
  have w1 : W (1 + 1) = 2 := by decide
  have w2 : W (2 + 1) = 3 := by decide
  by_cases hx : x ≠ 0
  · rw [loop_end (r := .inr x) (by unfold cmp_Or_int.b0; rw [if_pos (by simp), i0, Option.bind_some, if_pos hx]), if_pos hx]; rfl
  · rw [loop_go (s' := 1) (by unfold cmp_Or_int.b0; rw [if_pos (by simp), i0, Option.bind_some, if_neg hx, w0]), if_neg hx]
    by_cases hy : y ≠ 0
    · rw [loop_end (r := .inr y) (by unfold cmp_Or_int.b0; rw [if_pos (by simp), i1, Option.bind_some, if_pos hy]), if_pos hy]; rfl
    · rw [loop_go (s' := 2) (by unfold cmp_Or_int.b0; rw [if_pos (by simp), i1, Option.bind_some, if_neg hy, w1]), if_neg hy]
      by_cases hz : z ≠ 0
      · rw [loop_end (r := .inr z) (by unfold cmp_Or_int.b0; rw [if_pos (by simp), i2, Option.bind_some, if_pos hz])]; rfl
      · rw [loop_go (s' := 3) (by unfold cmp_Or_int.b0; rw [if_pos (by simp), i2, Option.bind_some, if_neg hz, w2]), loop_end (r := .inl ()) (by unfold cmp_Or_int.b0; rw [if_neg (by simp)])]
        have : z = 0 := by omega
        rw [this]; rfl
end Go.Proofs.Ythdoebgikbfndaa
end

/- Edges of many marks sorted. -/
section
namespace Go.Proofs.Ythdoebgikbfndaa
open Go Go.RowKit E
set_option linter.unusedVariables false

def gLt (a b : TGEdge) : Bool := decide (a.from_ < b.from_ ∨ (a.from_ = b.from_ ∧ (a.letter < b.letter ∨ (a.letter = b.letter ∧ a.to_ < b.to_))))
theorem cmpG_lt (a b : TGEdge) : ∃ x, impl_compareGEdges a b = some x ∧ (x < 0 ↔ gLt a b = true) := by
  unfold impl_compareGEdges
  rw [cmpOr_eq, Option.bind_some]
  refine ⟨_, rfl, ?_⟩
  rw [cmpInt_eq, cmpInt_eq, cmpInt_eq]
  unfold gLt
  rw [decide_eq_true_eq]
  repeat' split
  all_goals omega
theorem sortG_eq {l s : List TGEdge} (hs : s.Pairwise fun a b => gLt a b = true) (hp : s.Perm l) (hl : l.length < 4611686018427387904) : slices_SortFunc_TGEdge l impl_compareGEdges = some s := by
  unfold slices_SortFunc_TGEdge
  refine sortBy_eq cmpG_lt (fun a => ?_) (fun a b c h1 h2 => ?_) (fun a b c h1 h2 => ?_) hs hp hl
  · unfold gLt; rw [decide_eq_false_iff_not]; omega
  · unfold gLt at *; rw [decide_eq_true_eq] at *; omega
  · unfold gLt at *; rw [decide_eq_false_iff_not] at *; omega
end Go.Proofs.Ythdoebgikbfndaa
end

/- Loops over lists, told by what their states stand for. -/
section
namespace Go.Proofs.Ythdoebgikbfndaa
open Go Go.RowKit E
set_option linter.unusedVariables false

theorem fold_loopR {α σ τ ρ : Type} [Inhabited α] (r : τ → σ) (o : τ → ρ) (xs : List α) (f : τ → α → τ) (Inv : Nat → τ → Prop) {body : σ × Int → Option ((σ × Int) ⊕ ρ)} (go : ∀ (k : Nat) (st : τ), k < xs.length → Inv k st → body (r st, (k : Int)) = some (.inl (r (f st (xs.getD k default)), ((k + 1 : Nat) : Int))) ∧ Inv (k + 1) (f st (xs.getD k default)))
    (fin : ∀ st, Inv xs.length st → body (r st, (xs.length : Int)) = some (.inr (o st))) (st : τ) (h0 : Inv 0 st) : loop body (r st, 0) = some (o (xs.foldl f st)) ∧ Inv xs.length (xs.foldl f st) := by
  have key : ∀ post pre, xs = pre ++ post → ∀ st, Inv pre.length st → loop body (r st, (pre.length : Int)) = some (o (post.foldl f st)) ∧ Inv xs.length (post.foldl f st) := by
    intro post
    induction post with
    | nil => intro pre h st hi; simp at h; subst h; exact ⟨loop_end (fin st hi), hi⟩
    | cons a post ih =>
      intro pre h st hi
      have hk : pre.length < xs.length := by rw [h]; simp
      have ha : xs.getD pre.length default = a := by rw [h]; simp
      obtain ⟨g1, g2⟩ := go pre.length st hk hi
      rw [ha] at g1 g2
      have e : (((pre.length + 1 : Nat) : Int)) = ((pre ++ [a]).length : Int) := by simp
      rw [loop_go g1, e, List.foldl_cons]
      exact ih (pre ++ [a]) (by rw [h]; simp) _ (by simpa using g2)
  exact key xs [] rfl st h0
/-- A loop over the numbers below one. -/
theorem range_loopR {σ τ ρ : Type} (r : τ → σ) (o : τ → ρ) (n : Nat) (f : τ → Nat → τ) (Inv : Nat → τ → Prop) {body : σ × Int → Option ((σ × Int) ⊕ ρ)} (go : ∀ (k : Nat) (st : τ), k < n → Inv k st → body (r st, (k : Int)) = some (.inl (r (f st k), ((k + 1 : Nat) : Int))) ∧ Inv (k + 1) (f st k))
    (fin : ∀ st, Inv n st → body (r st, (n : Int)) = some (.inr (o st))) (st : τ) (h0 : Inv 0 st) : loop body (r st, 0) = some (o ((List.range n).foldl f st)) ∧ Inv n ((List.range n).foldl f st) := by
  have h := fold_loopR r o (List.range n) f Inv (body := body) (fun k st hk hi => by
    have hk' : k < n := by simpa using hk
    have e : (List.range n).getD k default = k := by simp [List.getD_eq_getElem?_getD, hk']
    rw [e]; exact go k st hk' hi) (fun st hi => by rw [List.length_range] at hi ⊢; exact fin st hi) st h0
  rw [List.length_range] at h
  exact h
/-- Members put into a set, where asked. -/
def setOf (c : Nat → Bool) (n : Nat) : Nat := (List.range n).foldl (fun s k => if c k = true then s ||| 2 ^ k else s) 0
theorem setOf_bit (c : Nat → Bool) (n : Nat) (i : Nat) : (setOf c n).testBit i = (decide (i < n) && c i) := by
  unfold setOf
  induction n with
  | zero => simp
  | succ n ih =>
    rw [List.range_succ, List.foldl_append, List.foldl_cons, List.foldl_nil]
    by_cases h : c n = true
    · rw [if_pos h, Nat.testBit_or, ih, Nat.testBit_two_pow]
      by_cases e : n = i
      · subst e; simp [h]
      · have : decide (i < n + 1) = decide (i < n) := by rw [decide_eq_decide]; omega
        simp [e, this]
    · rw [if_neg h, ih]
      by_cases e : i = n
      · subst e; simp [h]
      · have : decide (i < n + 1) = decide (i < n) := by rw [decide_eq_decide]; omega
        rw [this]
theorem setOf_lt (c : Nat → Bool) (n : Nat) : setOf c n < 2 ^ n := by
  refine Nat.lt_pow_two_of_testBit _ fun i hi => ?_
  rw [setOf_bit, decide_eq_false (by omega), Bool.false_and]
end Go.Proofs.Ythdoebgikbfndaa
end

/- Numbers made of three digits. -/
section
namespace Go.Proofs.Ythdoebgikbfndaa
open Go Go.RowKit E
set_option linter.unusedVariables false

theorem key_div {S L f l t : Nat} (hl : l < L) (ht : t < S) : ((f * L + l) * S + t) / S / L = f ∧ ((f * L + l) * S + t) / S % L = l ∧ ((f * L + l) * S + t) % S = t := by
  have hS : 0 < S := by omega
  have hL : 0 < L := by omega
  have e1 : ((f * L + l) * S + t) / S = f * L + l := by
    rw [Nat.add_comm, Nat.add_mul_div_right _ _ hS, Nat.div_eq_of_lt ht, Nat.zero_add]
  refine ⟨?_, ?_, ?_⟩
  · rw [e1, Nat.add_comm, Nat.add_mul_div_right _ _ hL, Nat.div_eq_of_lt hl, Nat.zero_add]
  · rw [e1, Nat.add_comm, Nat.add_mul_mod_self_right, Nat.mod_eq_of_lt hl]
  · rw [Nat.add_comm, Nat.add_mul_mod_self_right, Nat.mod_eq_of_lt ht]
theorem key_lt {S L f l t : Nat} (hf : f < S) (hl : l < L) (ht : t < S) : (f * L + l) * S + t < S * L * S := by
  have h1 : f * L + L ≤ S * L := by rw [← Nat.succ_mul]; exact Nat.mul_le_mul_right _ hf
  have h2 : (f * L + l) * S + S ≤ S * L * S := by rw [← Nat.succ_mul]; exact Nat.mul_le_mul_right _ (by omega)
  omega
theorem digit_lt {n q r q' r' : Nat} (hr : r < n) (hr' : r' < n) (h : q * n + r < q' * n + r') : q < q' ∨ q = q' ∧ r < r' := by
  rcases Nat.lt_trichotomy q q' with g | g | g
  · exact .inl g
  · subst g; exact .inr ⟨rfl, by omega⟩
  · have : (q' + 1) * n ≤ q * n := Nat.mul_le_mul_right _ g
    rw [Nat.succ_mul] at this
    omega
theorem qm {S x : Nat} (hS : 1 ≤ S ∧ S ≤ 31) (hx : x ≤ 1000000) : quo .i64 (x : Int) (S : Int) = ((x / S : Nat) : Int) ∧ Int.tmod (x : Int) (S : Int) = ((x % S : Nat) : Int) := by
  have h3 := Nat.div_le_self x S
  refine ⟨?_, rfl⟩
  unfold quo
  rw [show ((x : Int).tdiv (S : Int)) = ((x / S : Nat) : Int) from rfl]
  generalize x / S = d at h3 ⊢
  exact W_eq (by omega) (by omega)
end Go.Proofs.Ythdoebgikbfndaa
end

/- The reference's sorting of edges of many marks. -/
section
namespace Go.Proofs.Ythdoebgikbfndaa
open Go Go.RowKit E
set_option linter.unusedVariables false

def keyG (S L : Nat) (e : TGEdge) : Nat := (e.from_.toNat * L + e.letter.toNat) * S + e.to_.toNat
structure GE (S L : Nat) (e : TGEdge) : Prop where
  f : 0 ≤ e.from_ ∧ e.from_ < S
  l : 0 ≤ e.letter ∧ e.letter < L
  t : 0 ≤ e.to_ ∧ e.to_ < S
  m : 0 ≤ e.marks ∧ e.marks ≤ 1000
def decG (S L i : Nat) (m : Int) : TGEdge := ⟨((i / S / L : Nat) : Int), ((i / S % L : Nat) : Int), ((i % S : Nat) : Int), m⟩
theorem decG_lt {S L i j : Nat} (hS : 0 < S) (hL : 0 < L) (h : i < j) (m m' : Int) : gLt (decG S L i m) (decG S L j m') = true := by
  have d1 := Nat.div_add_mod i S
  have d2 := Nat.div_add_mod j S
  have d3 := Nat.div_add_mod (i / S) L
  have d4 := Nat.div_add_mod (j / S) L
  have r1 := Nat.mod_lt i hS
  have r2 := Nat.mod_lt j hS
  have r3 := Nat.mod_lt (i / S) hL
  have r4 := Nat.mod_lt (j / S) hL
  rw [Nat.mul_comm] at d1 d2 d3 d4
  have k1 := digit_lt r1 r2 (by rw [d1, d2]; exact h)
  unfold gLt decG
  rw [decide_eq_true_eq]
  rcases k1 with k1 | ⟨k1, k2⟩
  · have k3 := digit_lt r3 r4 (by rw [d3, d4]; exact k1)
    rcases k3 with k3 | ⟨k3, k4⟩
    · left; simp only; omega
    · right; simp only; exact ⟨by omega, by omega⟩
  · right
    simp only
    rw [k1]
    exact ⟨rfl, .inr ⟨rfl, by omega⟩⟩
theorem decG_key {S L : Nat} {e : TGEdge} (h : GE S L e) : decG S L (keyG S L e) e.marks = e := by
  obtain ⟨h1, h2, h3⟩ := key_div (S := S) (L := L) (f := e.from_.toNat) (l := e.letter.toNat) (t := e.to_.toNat) (by have := h.l; omega) (by have := h.t; omega)
  unfold decG keyG
  rw [h1, h2, h3]
  obtain ⟨f, l, t, m⟩ := e
  have a := h.f; have b := h.l; have c := h.t
  simp only at a b c ⊢
  congr 1 <;> omega
theorem keyG_lt {S L : Nat} {e : TGEdge} (h : GE S L e) : keyG S L e < S * L * S := key_lt (by have := h.f; omega) (by have := h.l; omega) (by have := h.t; omega)
theorem key_W {S L : Nat} (hS : S ≤ 31) (hL : L ≤ 8) {e : TGEdge} (h : GE S L e) : W (W (W (W (e.from_ * (L : Int)) + e.letter) * (S : Int)) + e.to_) = ((keyG S L e : Nat) : Int) := by
  obtain ⟨f, l, t, m⟩ := e
  have a := h.f; have b := h.l; have c := h.t
  simp only at a b c ⊢
  unfold keyG
  simp only
  obtain ⟨f, rfl⟩ : ∃ x : Nat, f = x := ⟨f.toNat, by omega⟩
  obtain ⟨l, rfl⟩ : ∃ x : Nat, l = x := ⟨l.toNat, by omega⟩
  obtain ⟨t, rfl⟩ : ∃ x : Nat, t = x := ⟨t.toNat, by omega⟩
  simp only [Int.toNat_natCast]
  have b1 : f * L ≤ 31 * 8 := Nat.mul_le_mul (by omega) hL
  have e1 : (f : Int) * (L : Int) = ((f * L : Nat) : Int) := by push_cast; rfl
  have wn : ∀ x : Nat, x ≤ 1000000 → W (x : Int) = (x : Int) := fun x h => W_eq (by omega) (by omega)
  have e2 : ((f * L : Nat) : Int) + (l : Int) = ((f * L + l : Nat) : Int) := by omega
  have b2 : (f * L + l) * S ≤ 300 * 31 := Nat.mul_le_mul (by omega) hS
  have e3 : ((f * L + l : Nat) : Int) * (S : Int) = (((f * L + l) * S : Nat) : Int) := by push_cast; rfl
  have e4 : (((f * L + l) * S : Nat) : Int) + (t : Int) = (((f * L + l) * S + t : Nat) : Int) := by omega
  rw [e1, wn _ (by omega), e2, wn _ (by omega), e3, wn _ (by omega), e4, wn _ (by omega)]

/-- The table of marks. -/
def putM (S L : Nat) (st : List Int) (e : TGEdge) : List Int := st.set (keyG S L e) (e.marks + 1)
theorem putM_len (S L : Nat) : ∀ (l : List TGEdge) (st : List Int), (l.foldl (putM S L) st).length = st.length
  | [], _ => rfl
  | e :: l, st => by rw [List.foldl_cons, putM_len S L l]; unfold putM; simp
theorem putM_other {S L i : Nat} : ∀ (l : List TGEdge) (st : List Int), (∀ e ∈ l, keyG S L e ≠ i) → (l.foldl (putM S L) st).getD i 0 = st.getD i 0
  | [], _, _ => rfl
  | e :: l, st, h => by
    rw [List.foldl_cons, putM_other l _ fun x hx => h x (List.mem_cons_of_mem _ hx)]
    unfold putM
    simp only [List.getD_eq_getElem?_getD]
    rw [List.getElem?_set_ne (h e List.mem_cons_self)]
theorem putM_mem {S L : Nat} : ∀ (l : List TGEdge) (st : List Int), (l.Pairwise fun a b => keyG S L a ≠ keyG S L b) → ∀ e ∈ l, keyG S L e < st.length → (l.foldl (putM S L) st).getD (keyG S L e) 0 = e.marks + 1
  | x :: l, st, hp, e, he, hk => by
    rw [List.foldl_cons]
    rw [List.pairwise_cons] at hp
    rcases List.mem_cons.mp he with rfl | he
    · rw [putM_other l _ fun y hy => (hp.1 y hy).symm]
      unfold putM
      simp [List.getD_eq_getElem?_getD, hk]
    · exact putM_mem l _ hp.2 e he (by unfold putM; simpa using hk)

/-- What is read off the table. -/
def outM (S L : Nat) (m : List Int) (n : Nat) : List TGEdge := (List.range n).filterMap fun i => if m.getD i 0 > 0 then some (decG S L i (m.getD i 0 - 1)) else none
theorem outM_succ (S L : Nat) (m : List Int) (n : Nat) : outM S L m (n + 1) = outM S L m n ++ (if m.getD n 0 > 0 then [decG S L n (m.getD n 0 - 1)] else []) := by
  unfold outM
  rw [List.range_succ, List.filterMap_append]
  congr 1
  by_cases h : m.getD n 0 > 0
  · rw [if_pos h]; simp only [List.filterMap_cons, List.filterMap_nil]; rw [if_pos h]
  · rw [if_neg h]; simp only [List.filterMap_cons, List.filterMap_nil]; rw [if_neg h]
theorem outM_len (S L : Nat) (m : List Int) (n : Nat) : (outM S L m n).length ≤ n := by
  unfold outM
  refine Nat.le_trans (List.length_filterMap_le _ _) (by simp)
theorem outM_sorted {S L : Nat} (hS : 0 < S) (hL : 0 < L) (m : List Int) (n : Nat) : (outM S L m n).Pairwise fun a b => gLt a b = true := by
  unfold outM
  rw [List.pairwise_filterMap]
  refine List.pairwise_lt_range.imp fun {i j} hij => ?_
  intro a ha b hb
  split at ha
  · split at hb
    · cases ha; cases hb; exact decG_lt hS hL hij _ _
    · cases hb
  · cases ha
theorem gLt_irrefl (a : TGEdge) : gLt a a = false := by unfold gLt; rw [decide_eq_false_iff_not]; omega

theorem l5Sort_eq {g : TGen} {S L : Nat} (hS : g.states = (S : Int)) (hL : g.letters = (L : Int)) (bS : 1 ≤ S ∧ S ≤ 31) (bL : 1 ≤ L ∧ L ≤ 8) (he : ∀ e ∈ g.edges, GE S L e) (hk : g.edges.Pairwise fun a b => keyG S L a ≠ keyG S L b)
    (hl : g.edges.length ≤ 1000000) : ∃ s, spec_l5Sort g = some { g with edges := s } ∧ s.Perm g.edges ∧ s.Pairwise fun a b => gLt a b = true := by
  have bSL : S * L ≤ 31 * 8 := Nat.mul_le_mul bS.2 bL.2
  have bN : S * L * S ≤ 248 * 31 := Nat.mul_le_mul bSL bS.2
  have w1 : W (g.states * g.letters) = ((S * L : Nat) : Int) := by
    rw [hS, hL, show (S : Int) * (L : Int) = ((S * L : Nat) : Int) by push_cast; rfl, W, W_eq (by omega) (by omega)]
  have w2 : W (((S * L : Nat) : Int) * g.states) = ((S * L * S : Nat) : Int) := by
    rw [hS, show ((S * L : Nat) : Int) * (S : Int) = ((S * L * S : Nat) : Int) by push_cast; rfl, W, W_eq (by omega) (by omega)]
  generalize hN : S * L * S = N at *
  have hrep : ∀ i, (List.replicate N (0 : Int)).getD i 0 = 0 := fun i => by
    simp only [List.getD_eq_getElem?_getD, List.getElem?_replicate]
    split <;> rfl
  have hmem : ∀ i, (g.edges.foldl (putM S L) (List.replicate N 0)).getD i 0 > 0 → ∃ e ∈ g.edges, keyG S L e = i ∧ (g.edges.foldl (putM S L) (List.replicate N 0)).getD i 0 = e.marks + 1 := fun i hi => by
    by_cases c : ∀ e ∈ g.edges, keyG S L e ≠ i
    · rw [putM_other _ _ c, hrep] at hi; omega
    · obtain ⟨e, c⟩ := Classical.not_forall.mp c
      obtain ⟨c1, c2⟩ := Classical.not_imp.mp c
      have c2 := Classical.not_not.mp c2
      refine ⟨e, c1, c2, ?_⟩
      rw [← c2]
      exact putM_mem _ _ hk e c1 (by have := keyG_lt (he e c1); simp; omega)
  refine ⟨outM S L (g.edges.foldl (putM S L) (List.replicate N 0)) N, ?_, ?_, outM_sorted (by omega) (by omega) _ _⟩
  · unfold spec_l5Sort
    rw [w1, w2, mk_ok (by omega) (by omega), Option.bind_some, Int.toNat_natCast]
    have h1 := fold_loopR (ρ := List Int) (fun x : List Int => x) (fun x => x) g.edges (putM S L) (fun _ st => st.length = N) (body := fun s : List Int × Int => spec_l5Sort.b1 g s.1 s.2) (fun k st hk hi => by
      have hm := he _ (List.getElem_mem hk)
      have hd : g.edges.getD k default = g.edges[k] := by simp [List.getD_eq_getElem?_getD, hk]
      refine ⟨?_, by unfold putM; simpa using hi⟩
      dsimp only
      unfold spec_l5Sort.b1
      rw [if_pos (by omega), ix_nat hk, Option.bind_some, hd, hL, hS, key_W bS.2 bL.2 hm, ck_nat (by have := keyG_lt hm; omega), Option.bind_some]
      have w3 : W (g.edges[k].marks + 1) = g.edges[k].marks + 1 := W_eq (by have := hm.m; omega) (by have := hm.m; omega)
      rw [w3, WN (by omega)]
      rfl) (fun st hi => by dsimp only; unfold spec_l5Sort.b1; rw [if_neg (by omega)]) (List.replicate N 0) (by simp)
    rw [h1.1, Option.bind_some]
    have hml := h1.2
    clear h1
    generalize g.edges.foldl (putM S L) (List.replicate N 0) = m at hml hmem ⊢
    unfold spec_l5Sort.k0
    have h2 := loop_up (body := fun s : List TGEdge × Int => spec_l5Sort.b0 m g s.1 s.2) N (fun k => (outM S L m k, (k : Int))) (outM S L m N) (fun k hk => by
      dsimp only
      unfold spec_l5Sort.b0
      have hdf : m.getD k default = m.getD k 0 := rfl
      have hkm : k < m.length := by omega
      have q1 := qm (S := S) (x := k) bS (by omega)
      have q2 := qm (S := L) (x := k / S) (by omega) (by have := Nat.div_le_self k S; omega)
      rw [if_pos (by omega), ix_nat hkm, Option.bind_some, hdf, outM_succ]
      by_cases c : m.getD k 0 > 0
      · rw [if_pos c, if_pos c, hS, hL, decide_eq_true (by omega), decide_eq_true (by omega), chk_t]
        simp only [Option.bind_some]
        rw [q1.1, q2.1, q2.2, q1.2,
          app_small (by have := outM_len S L m k; simp; omega) (by omega), Option.bind_some, WN (by omega)]
        have w4 : W (m.getD k 0 - 1) = m.getD k 0 - 1 := by
          obtain ⟨e, e1, _, e2⟩ := hmem k c
          have := (he e e1).m
          rw [e2]; exact W_eq (by omega) (by omega)
        rw [w4]; rfl
      · rw [if_neg c, if_neg c, List.append_nil, WN (by omega)]) (by
      dsimp only; unfold spec_l5Sort.b0; rw [if_neg (by omega)]) 0 (Nat.zero_le _)
    have h3 : loop (fun s : List TGEdge × Int => spec_l5Sort.b0 m g s.1 s.2) ([], 0) = some (outM S L m N) := h2
    rw [h3]; rfl
  · rw [List.perm_ext_iff_of_nodup]
    · intro e
      unfold outM
      rw [List.mem_filterMap]
      constructor
      · rintro ⟨i, hi, h⟩
        split at h
        · rename_i c
          cases h
          obtain ⟨e, e1, e2, e3⟩ := hmem i c
          rw [e3, ← e2, show e.marks + 1 - 1 = e.marks by omega, decG_key (he e e1)]
          exact e1
        · cases h
      · intro h
        have h1 := keyG_lt (he e h)
        have h2 := putM_mem g.edges (List.replicate N 0) hk e h (by simp; omega)
        refine ⟨keyG S L e, by simp; omega, ?_⟩
        rw [h2, if_pos (by have := (he e h).m; omega), show e.marks + 1 - 1 = e.marks by omega, decG_key (he e h)]
    · refine (outM_sorted (by omega) (by omega) _ _).imp fun {a b} h => ?_
      rintro rfl
      rw [gLt_irrefl] at h; cases h
    · exact hk.imp fun {a b} h => by rintro rfl; exact h rfl
end Go.Proofs.Ythdoebgikbfndaa
end

/- The automaton of a formula: both sides come to the same. -/
section
namespace Go.Proofs.Ythdoebgikbfndaa
open Go Go.RowKit E
set_option linter.unusedVariables false
set_option linter.unusedSectionVars false

theorem specTemp_eq (e : List TNode) : spec_LtlTemporal e = some (if treeOk ltP e = true then tempL 0 e else []) := by
  unfold spec_LtlTemporal
  rw [specLtlOk_eq, Option.bind_some]
  by_cases h : treeOk ltP e = true
  · have hn := (treeOk_nodes h).2.1
    rw [if_neg (by rw [h]; simp), if_pos h]
    unfold spec_l8Temporal
    have := temp_loop (body := fun s : List Int × Int => spec_l8Temporal.b0 e s.1 s.2) e hn (fun y x => rfl) e [] [] rfl (by simp)
    have h2 : loop (fun s : List Int × Int => spec_l8Temporal.b0 e s.1 s.2) ([], 0) = some (tempL 0 e) := this
    rw [h2]; rfl
  · rw [if_pos (by simpa using h), if_neg h]
def belowB (e : List TNode) (p : Int) : Bool := (List.range e.length).all fun k => !(decide ((e.getD k default).kind = 3) && decide ((e.getD k default).a ≥ p))
theorem l10Props_eq (e : List TNode) (p : Int) (he : e.length ≤ 31) : spec_l10Props e p = some (belowB e p) := by
  unfold spec_l10Props
  have h := all_loop (body := fun s : Int => spec_l10Props.b0 e p s) e.length (fun k => !(decide ((e.getD k default).kind = 3) && decide ((e.getD k default).a ≥ p))) (fun k hk => by
    unfold spec_l10Props.b0
    simp only [ix_nat hk, Option.bind_some, bnd_eq, WN (k := k) (by omega)]
    rw [if_pos (by omega)]
    by_cases c : (e.getD k default).kind = 3
    · rw [decide_eq_true c, whenO_t, Option.bind_some, Bool.true_and]
      by_cases d : (e.getD k default).a ≥ p
      · rw [if_pos (decide_eq_true d), decide_eq_true d]; rfl
      · rw [if_neg (by simpa using d), decide_eq_false d]; rfl
    · rw [decide_eq_false c, whenO_f, Option.bind_some]; rfl) (by unfold spec_l10Props.b0; rw [if_neg (by omega)])
  rw [h]
  unfold belowB
  split
  · rename_i c; rw [c]; rfl
  · rename_i c; rw [Bool.not_eq_true] at c; rw [c]; rfl
theorem isBelow_eq (e : List TNode) (p : Int) (he : e.length ≤ 31) : impl_isBelow e p = some (belowB e p) := by
  unfold impl_isBelow
  have h := all_loop (body := fun s : Int => impl_isBelow.b0 e p s) e.length (fun k => !(decide ((e.getD k default).kind = 3) && decide ((e.getD k default).a ≥ p))) (fun k hk => by
    unfold impl_isBelow.b0
    simp only [ix_nat hk, Option.bind_some, bnd_eq, WN (k := k) (by omega)]
    rw [if_pos (by omega)]
    cases (decide ((e.getD k default).kind = 3) && decide ((e.getD k default).a ≥ p)) <;> rfl) (by unfold impl_isBelow.b0; rw [if_neg (by omega)])
  rw [h]
  unfold belowB
  split
  · rename_i c; rw [c]; rfl
  · rename_i c; rw [Bool.not_eq_true] at c; rw [c]; rfl

/-- What is so at a step. -/
def gSo (e : List TNode) (x c : Nat) : List Bool := stL x c e [] 0
def gM (e : List TNode) (x c : Nat) : Nat := bitsF (mrkV e (gSo e x c)) (tempL 0 e) 0 0
def gT (e : List TNode) (x c : Nat) : Nat := bitsF (nowV e (gSo e x c)) (tempL 0 e) 0 0
def gE0 (e : List TNode) (x c : Nat) : TGEdge := ⟨0, (x : Int), ((1 + c : Nat) : Int), (gM e x c : Nat)⟩
def gE1 (e : List TNode) (x c : Nat) : TGEdge := ⟨((1 + gT e x c : Nat) : Int), (x : Int), ((1 + c : Nat) : Int), (gM e x c : Nat)⟩
def gFin (e : List TNode) (x c : Nat) : Bool := (gSo e x c).getD (e.length - 1) default
def specRow (e : List TNode) (x c : Nat) : List TGEdge := (if gFin e x c = true then [gE0 e x c] else []) ++ [gE1 e x c]
def implRow (e : List TNode) (x c : Nat) : List TGEdge := gE1 e x c :: (if gFin e x c = true then [gE0 e x c] else [])
def rowsU (f : Nat → List TGEdge) (n : Nat) : List TGEdge := (List.range n).flatMap f
theorem rowsU_succ (f : Nat → List TGEdge) (n : Nat) : rowsU f (n + 1) = rowsU f n ++ f n := by
  unfold rowsU
  rw [List.range_succ, List.flatMap_append]; simp
theorem rowsU_len {f : Nat → List TGEdge} {K : Nat} (h : ∀ i, (f i).length ≤ K) : ∀ n, (rowsU f n).length ≤ n * K
  | 0 => by simp [rowsU]
  | n + 1 => by
    have := rowsU_len h n
    rw [rowsU_succ, List.length_append, Nat.succ_mul]
    have := h n
    omega
theorem specRow_len (e : List TNode) (x c : Nat) : (specRow e x c).length ≤ 2 := by unfold specRow; split <;> simp
theorem implRow_len (e : List TNode) (x c : Nat) : (implRow e x c).length ≤ 2 := by unfold implRow; split <;> simp
theorem rows_len {f : Nat → Nat → List TGEdge} (h : ∀ x c, (f x c).length ≤ 2) {C : Nat} (hC : C ≤ 8) (n : Nat) : (rowsU (fun x => rowsU (f x) C) n).length ≤ n * 16 :=
  rowsU_len (fun x => Nat.le_trans (rowsU_len (h x) C) (by omega)) n

section
variable {e : List TNode} (he : Nodes ltP e) {n : Nat} (hn : (tempL 0 e).length = n) (h3 : n ≤ 3)
include he hn h3
theorem pow8 : 2 ^ n ≤ 8 := Nat.le_trans (Nat.pow_le_pow_right (by omega) h3) (by decide)
theorem gSo_len (x c : Nat) : (gSo e x c).length = e.length := by unfold gSo; rw [stL_len]; simp
theorem gT_lt (x c : Nat) : gT e x c < 2 ^ n := by
  have := bitsF_lt (nowV e (gSo e x c)) (tempL 0 e) 0 0 (by simp)
  rw [hn, Nat.zero_add] at this
  exact this
theorem gM_lt (x c : Nat) : gM e x c < 2 ^ n := by
  have := bitsF_lt (mrkV e (gSo e x c)) (tempL 0 e) 0 0 (by simp)
  rw [hn, Nat.zero_add] at this
  exact this
theorem fin_ix (x c : Nat) : ix (gSo e x c) (W ((e.length : Int) - 1)) = some (gFin e x c) := by
  have h1 := he.1
  have h2 := he.2.1
  have w : W ((e.length : Int) - 1) = ((e.length - 1 : Nat) : Int) := by rw [W, W_eq (by omega) (by omega)]; omega
  rw [w, ix_nat (by rw [gSo_len he hn h3]; omega)]; rfl

theorem spec_inner {x : Nat} (hx : x ≤ 7) (a b c d : Int) (acc : List TGEdge) (ha : acc.length ≤ 1000) : loop (fun s : Int × Int × Int × Int × List TGEdge × Int => spec_LtlGen.b1 (tempL 0 e) e (x : Int) s.1 s.2.1 s.2.2.1 s.2.2.2.1 s.2.2.2.2.1 s.2.2.2.2.2) (a, b, c, d, acc, 0)
    = some (a, b, c, d, acc ++ rowsU (specRow e x) (2 ^ n)) := by
  have p8 := pow8 he hn h3
  have hs : shl .i64 1 (((tempL 0 e).length : Nat) : Int) = ((2 ^ n : Nat) : Int) := by rw [hn]; exact shl1_i (by omega)
  have h := loop_up (body := fun s : Int × Int × Int × Int × List TGEdge × Int => spec_LtlGen.b1 (tempL 0 e) e (x : Int) s.1 s.2.1 s.2.2.1 s.2.2.2.1 s.2.2.2.2.1 s.2.2.2.2.2) (2 ^ n) (fun k => (a, b, c, d, acc ++ rowsU (specRow e x) k, (k : Int))) (a, b, c, d, acc ++ rowsU (specRow e x) (2 ^ n)) (fun k hk => by
      have hT := gT_lt he hn h3 x k
      have hL := rowsU_len (specRow_len e x) k
      have w1 : W (1 + ((gT e x k : Nat) : Int)) = ((1 + gT e x k : Nat) : Int) := by rw [W, W_eq (by omega) (by omega)]; omega
      have w2 : W (1 + (k : Int)) = ((1 + k : Nat) : Int) := by rw [W, W_eq (by omega) (by omega)]; omega
      have w3 : W ((k : Int) + 1) = ((k + 1 : Nat) : Int) := WN (by omega)
      have s1 := l9Step_eq he (l := x) (s := k) hx (by have : (2 : Nat) ^ 31 = 2147483648 := rfl; omega)
      have s2 := l10Bits_eq (gSo_len he hn h3 x k) (ts := tempL 0 e) (by omega) (tempL_tm he)
      have s3 := fin_ix he hn h3 x k
      dsimp only
      unfold spec_LtlGen.b1
      rw [decide_eq_true (by omega), chk_t, Option.bind_some, hs, if_pos (by omega), s1, Option.bind_some]
      change (spec_l10Bits e (tempL 0 e) (gSo e x k)).bind _ = _
      rw [s2, Option.bind_some]
      change ((ix (gSo e x k) (W ((e.length : Int) - 1))).bind _) = _
      rw [s3, Option.bind_some, rowsU_succ]
      unfold spec_LtlGen.k2
      rw [w2, w3, show specRow e x k = (if gFin e x k = true then [gE0 e x k] else []) ++ [gE1 e x k] from rfl]
      change (if gFin e x k = true then (app 32 _ [gE0 e x k]).bind _ else _) = _
      have w1' : W (1 + (((bitsF (nowV e (gSo e x k)) (tempL 0 e) 0 0 : Nat) : Int), ((bitsF (mrkV e (gSo e x k)) (tempL 0 e) 0 0 : Nat) : Int)).1) = ((1 + gT e x k : Nat) : Int) := w1
      by_cases g : gFin e x k = true
      · rw [if_pos g, if_pos g, app_small (by simp; omega) (by omega), Option.bind_some, w1', app_small (by simp; omega) (by omega), Option.bind_some, List.append_assoc, List.append_assoc]
        rfl
      · rw [if_neg g, if_neg g, w1', app_small (by simp; omega) (by omega), Option.bind_some, List.append_assoc]
        rfl) (by dsimp only; unfold spec_LtlGen.b1; rw [decide_eq_true (by omega), chk_t, Option.bind_some, hs, if_neg (by omega)]) 0 (Nat.zero_le _)
  have e0 : acc ++ rowsU (specRow e x) 0 = acc := by simp [rowsU]
  rw [e0] at h
  exact h
theorem impl_inner {x : Nat} (hx : x ≤ 7) (a b c d : Int) (acc : List TGEdge) (ha : acc.length ≤ 1000) : loop (fun s : Int × Int × Int × Int × List TGEdge × Int => impl_LtlGen.b1 (tempL 0 e) e (x : Int) s.1 s.2.1 s.2.2.1 s.2.2.2.1 s.2.2.2.2.1 s.2.2.2.2.2) (a, b, c, d, acc, 0)
    = some (a, b, c, d, acc ++ rowsU (implRow e x) (2 ^ n)) := by
  have p8 := pow8 he hn h3
  have hs : impl_only (((tempL 0 e).length : Nat) : Int) = ((2 ^ n : Nat) : Int) := by rw [hn]; exact only_eq (by omega)
  have h := loop_up (body := fun s : Int × Int × Int × Int × List TGEdge × Int => impl_LtlGen.b1 (tempL 0 e) e (x : Int) s.1 s.2.1 s.2.2.1 s.2.2.2.1 s.2.2.2.2.1 s.2.2.2.2.2) (2 ^ n) (fun k => (a, b, c, d, acc ++ rowsU (implRow e x) k, (k : Int))) (a, b, c, d, acc ++ rowsU (implRow e x) (2 ^ n)) (fun k hk => by
      have hT := gT_lt he hn h3 x k
      have hL := rowsU_len (implRow_len e x) k
      have w1 : W (1 + ((gT e x k : Nat) : Int)) = ((1 + gT e x k : Nat) : Int) := by rw [W, W_eq (by omega) (by omega)]; omega
      have w2 : W (1 + (k : Int)) = ((1 + k : Nat) : Int) := by rw [W, W_eq (by omega) (by omega)]; omega
      have w3 : W ((k : Int) + 1) = ((k + 1 : Nat) : Int) := WN (by omega)
      have s1 := stepOf_eq he (l := x) (s := k) hx (by have : (2 : Nat) ^ 31 = 2147483648 := rfl; omega)
      have s2 := toldBy_eq (gSo_len he hn h3 x k) (ts := tempL 0 e) (by omega) (tempL_tm he)
      have s4 := marksOf_eq (gSo_len he hn h3 x k) (ts := tempL 0 e) (by omega) (tempL_tm he)
      have s3 := fin_ix he hn h3 x k
      dsimp only
      unfold impl_LtlGen.b1
      rw [hs, if_pos (by omega), s1, Option.bind_some]
      change (impl_toldBy e (tempL 0 e) (gSo e x k)).bind _ = _
      rw [s2, Option.bind_some]
      change (impl_marksOf e (tempL 0 e) (gSo e x k)).bind _ = _
      rw [s4, Option.bind_some]
      have w1' : W (1 + ((bitsF (nowV e (gSo e x k)) (tempL 0 e) 0 0 : Nat) : Int)) = ((1 + gT e x k : Nat) : Int) := w1
      rw [w1', w2, w3, app_small (by simp; omega) (by omega), Option.bind_some]
      change ((ix (gSo e x k) (W ((e.length : Int) - 1))).bind _) = _
      rw [s3, Option.bind_some, rowsU_succ, show implRow e x k = [gE1 e x k] ++ (if gFin e x k = true then [gE0 e x k] else []) from rfl]
      by_cases g : gFin e x k = true
      · rw [if_pos g, if_pos g, app_small (by simp; omega) (by omega), Option.bind_some, List.append_assoc, List.append_assoc]
        rfl
      · rw [if_neg g, if_neg g, List.append_nil, List.append_assoc]
        rfl) (by dsimp only; unfold impl_LtlGen.b1; rw [hs, if_neg (by omega)]) 0 (Nat.zero_le _)
  have e0 : acc ++ rowsU (implRow e x) 0 = acc := by simp [rowsU]
  rw [e0] at h
  exact h
theorem spec_outer {X : Nat} (hX : X ≤ 8) (b c d : Int) : loop (fun s : Int × Int × Int × Int × List TGEdge × Int => spec_LtlGen.b0 (tempL 0 e) e s.1 s.2.1 s.2.2.1 s.2.2.2.1 s.2.2.2.2.1 s.2.2.2.2.2) ((X : Int), b, c, d, [], 0)
    = some ((X : Int), b, c, d, rowsU (fun x => rowsU (specRow e x) (2 ^ n)) X) := by
  have p8 := pow8 he hn h3
  have h := loop_up (body := fun s : Int × Int × Int × Int × List TGEdge × Int => spec_LtlGen.b0 (tempL 0 e) e s.1 s.2.1 s.2.2.1 s.2.2.2.1 s.2.2.2.2.1 s.2.2.2.2.2) X (fun k => ((X : Int), b, c, d, rowsU (fun x => rowsU (specRow e x) (2 ^ n)) k, (k : Int))) ((X : Int), b, c, d, rowsU (fun x => rowsU (specRow e x) (2 ^ n)) X) (fun k hk => by
      have hL := rows_len (specRow_len e) p8 k
      dsimp only
      unfold spec_LtlGen.b0
      rw [if_pos (by omega), spec_inner he hn h3 (by omega) _ _ _ _ _ (by omega), Option.bind_some, rowsU_succ]
      unfold spec_LtlGen.k1
      rw [WN (by omega)]) (by dsimp only; unfold spec_LtlGen.b0; rw [if_neg (by omega)]) 0 (Nat.zero_le _)
  exact h
theorem impl_outer {X : Nat} (hX : X ≤ 8) {p1 : Int} (hp : impl_only p1 = (X : Int)) (a b c d : Int) : loop (fun s : Int × Int × Int × Int × List TGEdge × Int => impl_LtlGen.b0 p1 (tempL 0 e) e s.1 s.2.1 s.2.2.1 s.2.2.2.1 s.2.2.2.2.1 s.2.2.2.2.2) (a, b, c, d, [], 0)
    = some (a, b, c, d, rowsU (fun x => rowsU (implRow e x) (2 ^ n)) X) := by
  have p8 := pow8 he hn h3
  have h := loop_up (body := fun s : Int × Int × Int × Int × List TGEdge × Int => impl_LtlGen.b0 p1 (tempL 0 e) e s.1 s.2.1 s.2.2.1 s.2.2.2.1 s.2.2.2.2.1 s.2.2.2.2.2) X (fun k => (a, b, c, d, rowsU (fun x => rowsU (implRow e x) (2 ^ n)) k, (k : Int))) (a, b, c, d, rowsU (fun x => rowsU (implRow e x) (2 ^ n)) X) (fun k hk => by
      have hL := rows_len (implRow_len e) p8 k
      dsimp only
      unfold impl_LtlGen.b0
      rw [hp, if_pos (by omega), impl_inner he hn h3 (by omega) _ _ _ _ _ (by omega), Option.bind_some, rowsU_succ]
      unfold impl_LtlGen.k1
      rw [WN (by omega)]) (by dsimp only; unfold impl_LtlGen.b0; rw [hp, if_neg (by omega)]) 0 (Nat.zero_le _)
  exact h
theorem rows_perm (X : Nat) : (rowsU (fun x => rowsU (specRow e x) (2 ^ n)) X).Perm (rowsU (fun x => rowsU (implRow e x) (2 ^ n)) X) := by
  have one : ∀ x c, (specRow e x c).Perm (implRow e x c) := fun x c => by
    unfold specRow implRow
    exact List.perm_append_comm
  have inner : ∀ x m, (rowsU (specRow e x) m).Perm (rowsU (implRow e x) m) := fun x m => by
    induction m with
    | zero => exact .refl _
    | succ m ih => rw [rowsU_succ, rowsU_succ]; exact ih.append (one x m)
  induction X with
  | zero => exact .refl _
  | succ m ih => rw [rowsU_succ, rowsU_succ]; exact ih.append (inner m _)
theorem rows_ge (X : Nat) : ∀ g ∈ rowsU (fun x => rowsU (specRow e x) (2 ^ n)) X, GE (1 + 2 ^ n) X g := by
  have p8 := pow8 he hn h3
  intro g hg
  unfold rowsU at hg
  obtain ⟨x, hx, hg⟩ := List.mem_flatMap.mp hg
  obtain ⟨c, hc, hg⟩ := List.mem_flatMap.mp hg
  rw [List.mem_range] at hx hc
  have hT := gT_lt he hn h3 x c
  have hM := gM_lt he hn h3 x c
  unfold specRow at hg
  rcases List.mem_append.mp hg with hg | hg
  · split at hg
    · rw [List.mem_singleton] at hg; subst hg
      unfold gE0
      exact ⟨by simp only; omega, by simp only; omega, by simp only; omega, by simp only; omega⟩
    · cases hg
  · rw [List.mem_singleton] at hg; subst hg
    unfold gE1
    exact ⟨by simp only; omega, by simp only; omega, by simp only; omega, by simp only; omega⟩
theorem rows_key (X : Nat) : (rowsU (fun x => rowsU (specRow e x) (2 ^ n)) X).Pairwise fun a b => ¬ (a.from_ = b.from_ ∧ a.letter = b.letter ∧ a.to_ = b.to_) := by
  have hmem : ∀ x c, ∀ g ∈ specRow e x c, g.letter = (x : Int) ∧ g.to_ = ((1 + c : Nat) : Int) := fun x c g hg => by
    unfold specRow at hg
    rcases List.mem_append.mp hg with hg | hg
    · split at hg
      · rw [List.mem_singleton] at hg; subst hg; exact ⟨rfl, rfl⟩
      · cases hg
    · rw [List.mem_singleton] at hg; subst hg; exact ⟨rfl, rfl⟩
  have hmem2 : ∀ x m, ∀ g ∈ rowsU (specRow e x) m, g.letter = (x : Int) ∧ ∃ c, c < m ∧ g.to_ = ((1 + c : Nat) : Int) := fun x m g hg => by
    obtain ⟨c, hc, hg⟩ := List.mem_flatMap.mp hg
    exact ⟨(hmem x c g hg).1, c, List.mem_range.mp hc, (hmem x c g hg).2⟩
  have one : ∀ x c, (specRow e x c).Pairwise fun a b => ¬ (a.from_ = b.from_ ∧ a.letter = b.letter ∧ a.to_ = b.to_) := fun x c => by
    unfold specRow
    split
    · simp only [List.singleton_append, List.pairwise_cons, List.mem_singleton, forall_eq, List.not_mem_nil, false_imp_iff, implies_true, List.Pairwise.nil, and_true]
      unfold gE0 gE1
      simp only
      omega
    · simp
  have inner : ∀ x m, (rowsU (specRow e x) m).Pairwise fun a b => ¬ (a.from_ = b.from_ ∧ a.letter = b.letter ∧ a.to_ = b.to_) := fun x m => by
    induction m with
    | zero => exact .nil
    | succ m ih =>
      rw [rowsU_succ, List.pairwise_append]
      refine ⟨ih, one x m, fun a ha b hb => ?_⟩
      obtain ⟨_, c, hc, h1⟩ := hmem2 x m a ha
      have h2 := (hmem x m b hb).2
      omega
  induction X with
  | zero => exact .nil
  | succ m ih =>
    rw [rowsU_succ, List.pairwise_append]
    refine ⟨ih, inner m _, fun a ha b hb => ?_⟩
    obtain ⟨x, hx, ha⟩ := List.mem_flatMap.mp ha
    rw [List.mem_range] at hx
    have h1 := (hmem2 x _ a ha).1
    have h2 := (hmem2 m _ b hb).1
    omega
end
theorem key_ne {S L : Nat} {a b : TGEdge} (ha : GE S L a) (hb : GE S L b) (h : ¬ (a.from_ = b.from_ ∧ a.letter = b.letter ∧ a.to_ = b.to_)) : keyG S L a ≠ keyG S L b := fun hk => by
  have h1 := decG_key ha
  have h2 := decG_key hb
  rw [hk] at h1
  have a1 : a.from_ = b.from_ := by
    have q1 : (decG S L (keyG S L b) a.marks).from_ = a.from_ := congrArg TGEdge.from_ h1
    have q2 : (decG S L (keyG S L b) b.marks).from_ = b.from_ := congrArg TGEdge.from_ h2
    exact q1.symm.trans q2
  have a2 : a.letter = b.letter := by
    have q1 : (decG S L (keyG S L b) a.marks).letter = a.letter := congrArg TGEdge.letter h1
    have q2 : (decG S L (keyG S L b) b.marks).letter = b.letter := congrArg TGEdge.letter h2
    exact q1.symm.trans q2
  have a3 : a.to_ = b.to_ := by
    have q1 : (decG S L (keyG S L b) a.marks).to_ = a.to_ := congrArg TGEdge.to_ h1
    have q2 : (decG S L (keyG S L b) b.marks).to_ = b.to_ := congrArg TGEdge.to_ h2
    exact q1.symm.trans q2
  exact h ⟨a1, a2, a3⟩

/-- Both sides come to the same. -/
theorem ltlGen_eq (e : List TNode) (p : Int) : ∃ r : TGen × Bool, spec_LtlGen e p = some r ∧ impl_LtlGen e p = some r ∧ r.1.edges.length ≤ 1000 := by
  by_cases ok : treeOk ltP e = true
  · have hn := treeOk_nodes ok
    have h31 := hn.2.1
    by_cases hp : 0 ≤ p ∧ p ≤ 3
    · by_cases hb : belowB e p = true
      · by_cases h3 : (tempL 0 e).length ≤ 3
        · obtain ⟨P, rfl⟩ : ∃ P : Nat, p = P := ⟨p.toNat, by omega⟩
          have pP : 2 ^ P ≤ 8 := Nat.le_trans (Nat.pow_le_pow_right (by omega) (by omega : P ≤ 3)) (by decide)
          have pp : 1 ≤ 2 ^ P := Nat.one_le_two_pow
          generalize hq : (tempL 0 e).length = n at *
          have pn : 2 ^ n ≤ 8 := pow8 hn hq h3
          have p1 : 1 ≤ 2 ^ n := Nat.one_le_two_pow
          have hs1 : shl .i64 1 (P : Int) = ((2 ^ P : Nat) : Int) := shl1_i (by omega)
          have ho1 : impl_only (P : Int) = ((2 ^ P : Nat) : Int) := only_eq (by omega)
          have hs2 : shl .i64 1 (n : Int) = ((2 ^ n : Nat) : Int) := shl1_i (by omega)
          have ho2 : impl_only (n : Int) = ((2 ^ n : Nat) : Int) := only_eq (by omega)
          have w1 : W (1 + ((2 ^ n : Nat) : Int)) = ((1 + 2 ^ n : Nat) : Int) := by
            generalize 2 ^ n = y at pn ⊢
            rw [W, W_eq (by omega) (by omega)]; omega
          have hge := rows_ge hn hq h3 (2 ^ P)
          have hky := rows_key hn hq h3 (2 ^ P)
          have hlen := rows_len (specRow_len e) pn (2 ^ P)
          have hlen2 := rows_len (implRow_len e) pn (2 ^ P)
          have hso := spec_outer hn hq h3 pP ((1 + 2 ^ n : Nat) : Int) 1 (n : Int)
          have hio := impl_outer hn hq h3 pP ho1 ((2 ^ P : Nat) : Int) ((1 + 2 ^ n : Nat) : Int) 1 (n : Int)
          have hpe := rows_perm hn hq h3 (2 ^ P)
          generalize rowsU (fun x => rowsU (specRow e x) (2 ^ n)) (2 ^ P) = es at *
          generalize rowsU (fun x => rowsU (implRow e x) (2 ^ n)) (2 ^ P) = ei at *
          obtain ⟨s, s1, s2, s3⟩ := l5Sort_eq (g := ⟨((2 ^ P : Nat) : Int), ((1 + 2 ^ n : Nat) : Int), 1, (n : Int), es⟩) (S := 1 + 2 ^ n) (L := 2 ^ P) rfl rfl (by omega) (by omega) hge
            (hky.imp_of_mem fun {a b} ha hb h => key_ne (hge a ha) (hge b hb) h) (by simp only; omega)
          have hsort := sortG_eq s3 (s2.trans hpe) (by omega)
          refine ⟨(⟨((2 ^ P : Nat) : Int), ((1 + 2 ^ n : Nat) : Int), 1, (n : Int), s⟩, true), ?_, ?_, by have := s2.length_eq; simp only at this ⊢; omega⟩
          · unfold spec_LtlGen
            simp only [specTemp_eq, specLtlOk_eq, ok, if_true, Option.bind_some, bnd_eq, hq, l1Rg]
            rw [decide_eq_false (by omega), decide_eq_true (by omega), decide_eq_true (by omega), decide_eq_true (by omega)]
            simp only [Bool.not_true, Bool.or_self, Bool.not_false, whenO_t, l10Props_eq e _ h31, hb, Option.bind_some, chk_t]
            rw [if_neg (by simp), hs1, hs2, w1]
            rw [hso, Option.bind_some]
            unfold spec_LtlGen.k0
            rw [s1]; rfl
          · unfold impl_LtlGen
            simp only [implLtlOk_eq, ok, Option.bind_some, bnd_eq]
            rw [show impl_isProps (P : Int) = true from by unfold impl_isProps; rw [inRg]; exact decide_eq_true hp]
            simp only [Bool.not_true, Bool.or_self, Bool.not_false, whenO_t, isBelow_eq e _ h31, hb, Option.bind_some]
            rw [if_neg (by simp), temporal_eq h31, Option.bind_some, hq, if_neg (by omega), ho2, w1, ho1]
            rw [hio, Option.bind_some]
            unfold impl_LtlGen.k0
            rw [hsort]; rfl
        · refine ⟨(⟨0, 0, 0, 0, []⟩, false), ?_, ?_, by simp⟩
          · unfold spec_LtlGen
            simp only [specTemp_eq, specLtlOk_eq, ok, if_true, Option.bind_some, bnd_eq]
            rw [decide_eq_true (by omega)]
            simp only [Bool.or_true, Bool.true_or, Bool.not_true, whenO_f, Option.bind_some]
            rfl
          · unfold impl_LtlGen
            simp only [implLtlOk_eq, ok, Option.bind_some, bnd_eq]
            rw [show impl_isProps p = true from by unfold impl_isProps; rw [inRg]; exact decide_eq_true hp]
            simp only [Bool.not_true, Bool.or_self, Bool.not_false, whenO_t, isBelow_eq e _ h31, hb, Option.bind_some]
            rw [if_neg (by simp), temporal_eq h31, Option.bind_some, if_pos (by omega)]
      · refine ⟨(⟨0, 0, 0, 0, []⟩, false), ?_, ?_, by simp⟩
        · unfold spec_LtlGen
          simp only [specTemp_eq, specLtlOk_eq, ok, if_true, Option.bind_some, bnd_eq, l10Props_eq e _ h31]
          rw [Bool.not_eq_true] at hb
          rw [hb]
          cases (((!true) || decide ((((tempL 0 e).length : Nat) : Int) > 3)) || !(spec_l1In p 0 3)) <;> rfl
        · unfold impl_LtlGen
          simp only [implLtlOk_eq, ok, Option.bind_some, bnd_eq, isBelow_eq e _ h31]
          rw [Bool.not_eq_true] at hb
          rw [hb]
          cases ((!true) || !(impl_isProps p)) <;> rfl
    · refine ⟨(⟨0, 0, 0, 0, []⟩, false), ?_, ?_, by simp⟩
      · unfold spec_LtlGen
        simp only [specTemp_eq, specLtlOk_eq, ok, if_true, Option.bind_some, bnd_eq, l1Rg]
        rw [decide_eq_false hp]
        simp only [Bool.not_false, Bool.or_true, Bool.true_or, Bool.not_true, whenO_f, Option.bind_some]
        rfl
      · unfold impl_LtlGen
        simp only [implLtlOk_eq, ok, Option.bind_some, bnd_eq]
        rw [show impl_isProps p = false from by unfold impl_isProps; rw [inRg]; exact decide_eq_false hp]
        rfl
  · rw [Bool.not_eq_true] at ok
    refine ⟨(⟨0, 0, 0, 0, []⟩, false), ?_, ?_, by simp⟩
    · unfold spec_LtlGen
      simp only [specTemp_eq, specLtlOk_eq, ok, Option.bind_some, bnd_eq]
      simp only [Bool.not_false, Bool.true_or, Bool.not_true, whenO_f, Option.bind_some]
      rfl
    · unfold impl_LtlGen
      simp only [implLtlOk_eq, ok, Option.bind_some, bnd_eq]
      simp only [Bool.not_false, Bool.true_or, Bool.not_true, whenO_f, Option.bind_some]
      rfl
end Go.Proofs.Ythdoebgikbfndaa
end

/- Edges of many marks compared, marked, found marked. -/
section
namespace Go.Proofs.Ythdoebgikbfndaa
open Go Go.RowKit E
set_option linter.unusedVariables false

def markGL (c : Nat) : List TGEdge → List TGEdge
  | [] => []
  | _ :: r => TGEdge.mk (c : Int) ((c : Int) + 1) ((c : Int) + 2) ((c : Int) + 3) :: markGL (c + 4) r
theorem markG_loop : ∀ (r pre : List TGEdge) (c : Nat), c + 4 * r.length ≤ 1000000000 → pre.length + r.length ≤ 1000000000 → loop (fun s : List TGEdge × Int × Int => laws_markGEdgeS.b0 s.1 s.2.1 s.2.2) (pre ++ r, (c : Int), (pre.length : Int)) = some (((c + 4 * r.length : Nat) : Int), pre ++ markGL c r)
  | [], pre, c, _, _ => loop_end (by dsimp only; unfold laws_markGEdgeS.b0; rw [if_neg (by simp)]; simp [markGL])
  | x :: r, pre, c, h1, h2 => by
    simp only [List.length_cons] at h1 h2
    have w1 : W ((c : Int) + 1) = (c : Int) + 1 := W_eq (by omega) (by omega)
    have w2 : W ((c : Int) + 1 + 1) = (c : Int) + 2 := by rw [W, W_eq (by omega) (by omega)]; omega
    have w3 : W ((c : Int) + 2 + 1) = (c : Int) + 3 := by rw [W, W_eq (by omega) (by omega)]; omega
    have w5 : W ((c : Int) + 3 + 1) = ((c + 4 : Nat) : Int) := by rw [W, W_eq (by omega) (by omega)]; omega
    have w4 : W ((pre.length : Int) + 1) = (((pre ++ [TGEdge.mk (c : Int) ((c : Int) + 1) ((c : Int) + 2) ((c : Int) + 3)]).length : Nat) : Int) := by rw [W, W_eq (by omega) (by omega)]; simp
    have ih := markG_loop r (pre ++ [TGEdge.mk (c : Int) ((c : Int) + 1) ((c : Int) + 2) ((c : Int) + 3)]) (c + 4) (by omega) (by simp; omega)
    rw [loop_go (s' := (pre ++ TGEdge.mk (c : Int) ((c : Int) + 1) ((c : Int) + 2) ((c : Int) + 3) :: r, ((c + 4 : Nat) : Int), (((pre ++ [TGEdge.mk (c : Int) ((c : Int) + 1) ((c : Int) + 2) ((c : Int) + 3)]).length : Nat) : Int)))]
    · rw [List.append_assoc, List.singleton_append] at ih
      rw [ih]
      simp only [List.length_cons, markGL, List.append_assoc, List.singleton_append]
      rw [show c + 4 + 4 * r.length = c + 4 * (r.length + 1) by omega]
    · dsimp only; unfold laws_markGEdgeS.b0
      rw [if_pos (by simp; omega)]
      simp only [ck_mid, Option.bind_some, set_mid, w1, w2, w3, w4, w5]
      simp
theorem markG_from (xs : List TGEdge) (c : Nat) (h : xs.length ≤ 2000000) (hc : c ≤ 20000000) : laws_markGEdgeS xs (c : Int) = some (((c + 4 * xs.length : Nat) : Int), markGL c xs) := by
  unfold laws_markGEdgeS
  have := markG_loop xs [] c (by omega) (by simp; omega)
  simp only [List.nil_append] at this
  have e : loop (fun s : List TGEdge × Int × Int => laws_markGEdgeS.b0 s.1 s.2.1 s.2.2) (xs, (c : Int), 0) = _ := this
  rw [e]; rfl
theorem markGL_len : ∀ (r : List TGEdge) (c : Nat), (markGL c r).length = r.length
  | [], c => rfl
  | _ :: r, c => by simp [markGL, markGL_len r]
theorem heldG_loop : ∀ (r pre : List TGEdge) (c : Nat), c + 4 * r.length ≤ 1000000000 → pre.length + r.length ≤ 1000000000 → loop (fun s : Int × Int => laws_heldGEdgeS.b0 (pre ++ markGL c r) s.1 s.2) ((c : Int), (pre.length : Int)) = some (.inl ((c + 4 * r.length : Nat) : Int))
  | [], pre, c, _, _ => loop_end (by dsimp only; unfold laws_heldGEdgeS.b0; rw [if_neg (by simp [markGL])]; simp)
  | x :: r, pre, c, h1, h2 => by
    simp only [List.length_cons] at h1 h2
    have w1 : W ((c : Int) + 1) = (c : Int) + 1 := W_eq (by omega) (by omega)
    have w2 : W ((c : Int) + 1 + 1) = (c : Int) + 2 := by rw [W, W_eq (by omega) (by omega)]; omega
    have w3 : W ((c : Int) + 2 + 1) = (c : Int) + 3 := by rw [W, W_eq (by omega) (by omega)]; omega
    have w5 : W ((c : Int) + 3 + 1) = ((c + 4 : Nat) : Int) := by rw [W, W_eq (by omega) (by omega)]; omega
    have w4 : W ((pre.length : Int) + 1) = (((pre ++ [TGEdge.mk (c : Int) ((c : Int) + 1) ((c : Int) + 2) ((c : Int) + 3)]).length : Nat) : Int) := by rw [W, W_eq (by omega) (by omega)]; simp
    have ih := heldG_loop r (pre ++ [TGEdge.mk (c : Int) ((c : Int) + 1) ((c : Int) + 2) ((c : Int) + 3)]) (c + 4) (by omega) (by simp; omega)
    rw [List.append_assoc, List.singleton_append] at ih
    unfold markGL
    rw [loop_go (s' := (((c + 4 : Nat) : Int), (((pre ++ [TGEdge.mk (c : Int) ((c : Int) + 1) ((c : Int) + 2) ((c : Int) + 3)]).length : Nat) : Int)))]
    · rw [ih, List.length_cons, show c + 4 + 4 * r.length = c + 4 * (r.length + 1) by omega]
    · dsimp only; unfold laws_heldGEdgeS.b0
      rw [if_pos (by simp; omega)]
      simp only [ix_mid, Option.bind_some, w1, w2, w3, w4, w5]
      simp
theorem heldG_eq (xs : List TGEdge) (h : xs.length ≤ 2000000) : laws_heldGEdgeS (markGL 1 xs) 1 = some ((1 + 4 * xs.length : Nat) : Int) := by
  unfold laws_heldGEdgeS
  have := heldG_loop xs [] 1 (by omega) (by simp; omega)
  simp only [List.nil_append] at this
  have e : loop (fun s : Int × Int => laws_heldGEdgeS.b0 (markGL 1 xs) s.1 s.2) (1, 0) = _ := this
  rw [e]; rfl
theorem eqGEdge_eq (a b : TGEdge) : laws_eqGEdge a b = decide (a = b) := by
  unfold laws_eqGEdge
  obtain ⟨a1, a2, a3, a4⟩ := a
  obtain ⟨b1, b2, b3, b4⟩ := b
  simp only [TGEdge.mk.injEq]
  repeat' split
  all_goals (symm; first | (rw [decide_eq_true_eq]; omega) | (rw [decide_eq_false_iff_not]; omega))
theorem eqGEdgeS_self (xs : List TGEdge) (h : xs.length ≤ 1048576) : laws_eqGEdgeS xs xs = some true := by
  unfold laws_eqGEdgeS
  rw [if_neg (by simp)]
  have := all_loop (body := fun s : Int => laws_eqGEdgeS.b0 xs xs s) xs.length (fun _ => true) (fun k hk => by
    unfold laws_eqGEdgeS.b0
    rw [if_pos (by omega), ix_nat hk, Option.bind_some, Option.bind_some, eqGEdge_eq, decide_eq_true rfl, if_neg (by simp), WN (by omega)]; rfl) (by unfold laws_eqGEdgeS.b0; rw [if_neg (by omega)])
  rw [this, if_pos (by simp)]; rfl
theorem eqGen_self (g : TGen) (h : g.edges.length ≤ 1048576) : laws_eqGen g g = some true := by
  unfold laws_eqGen
  rw [eqGEdgeS_self _ h]; simp
theorem markGen_eq (g : TGen) (h : g.edges.length ≤ 2000000) : laws_markGen g 1 = some (((1 + 4 * g.edges.length : Nat) : Int), { g with edges := markGL 1 g.edges }) := by
  unfold laws_markGen
  have := markG_from g.edges 1 h (by omega)
  rw [show ((1 : Nat) : Int) = 1 from rfl] at this
  rw [this, Option.bind_some]
theorem heldGen_eq (g : TGen) (h : g.edges.length ≤ 2000000) : laws_heldGen { g with edges := markGL 1 g.edges } 1 = some ((1 + 4 * g.edges.length : Nat) : Int) := by
  unfold laws_heldGen
  dsimp only
  rw [heldG_eq _ h, Option.bind_some, if_neg (by omega)]
end Go.Proofs.Ythdoebgikbfndaa
end

/- Lists of nodes: copied as they are, held against each other. -/
section
namespace Go.Proofs.Ythdoebgikbfndaa
open Go Go.RowKit E
set_option linter.unusedVariables false

theorem toNodeS_eq (xs : List TNode) (h : xs.length ≤ 1048576) : laws_toNodeS xs = some xs := by
  unfold laws_toNodeS
  rw [mk_ok (by omega) (by omega), Option.bind_some, Int.toNat_natCast]
  have h1 := copy_loop (fun a => some (laws_toNode a)) laws_toNode (fun _ => rfl) (TNode.mk 0 0 0) xs (by omega)
  have h2 : loop (fun s : List TNode × Int => laws_toNodeS.b0 xs s.1 s.2) (List.replicate xs.length (TNode.mk 0 0 0), 0) = some (xs.map laws_toNode) := h1
  rw [h2, Option.bind_some]
  have : xs.map laws_toNode = xs := by
    have : laws_toNode = id := rfl
    rw [this]; simp
  rw [this]; rfl
theorem eqNode_eq (a b : TNode) : laws_eqNode a b = decide (a = b) := by
  unfold laws_eqNode
  cases a; cases b
  simp only [TNode.mk.injEq]
  split
  · simp_all
  · split
    · simp_all
    · split <;> simp_all
theorem eqNodeS_eq (xs ys : List TNode) (h : xs.length ≤ 1048576) : laws_eqNodeS xs ys = some (decide (xs = ys)) := by
  unfold laws_eqNodeS
  split
  · rename_i k; rw [decide_eq_false]; intro e; subst e; exact k rfl
  · rename_i k
    have h1 := eq_loop (fun a b => some (laws_eqNode a b)) (fun a b => by rw [eqNode_eq]) xs ys (by omega) (by omega)
    have h2 : loop (fun s : Int => laws_eqNodeS.b0 xs ys s) 0 = some (if xs = ys then (.inl () : Unit ⊕ Bool) else .inr false) := h1
    rw [h2, Option.bind_some]
    by_cases e : xs = ys
    · rw [if_pos e]; simp [e, laws_eqNodeS.k0]
    · rw [if_neg e]; simp [e]
end Go.Proofs.Ythdoebgikbfndaa
end

/- Nodes marked. -/
section
namespace Go.Proofs.Ythdoebgikbfndaa
open Go Go.RowKit E
set_option linter.unusedVariables false

def markL (c : Nat) : List TNode → List TNode
  | [] => []
  | _ :: r => TNode.mk (c : Int) ((c : Int) + 1) ((c : Int) + 2) :: markL (c + 3) r
theorem markL_len : ∀ (r : List TNode) (c : Nat), (markL c r).length = r.length
  | [], c => rfl
  | _ :: r, c => by simp [markL, markL_len r]
theorem mark_loop : ∀ (r pre : List TNode) (c : Nat), c + 3 * r.length ≤ 1000000000 → pre.length + r.length ≤ 1000000000 → loop (fun s : List TNode × Int × Int => laws_markNodeS.b0 s.1 s.2.1 s.2.2) (pre ++ r, (c : Int), (pre.length : Int)) = some (((c + 3 * r.length : Nat) : Int), pre ++ markL c r)
  | [], pre, c, _, _ => loop_end (by dsimp only; unfold laws_markNodeS.b0; rw [if_neg (by simp)]; simp [markL])
  | x :: r, pre, c, h1, h2 => by
    simp only [List.length_cons] at h1 h2
    have w1 : W ((c : Int) + 1) = (c : Int) + 1 := W_eq (by omega) (by omega)
    have w2 : W ((c : Int) + 1 + 1) = (c : Int) + 2 := by rw [W, W_eq (by omega) (by omega)]; omega
    have w3 : W ((c : Int) + 2 + 1) = ((c + 3 : Nat) : Int) := by rw [W, W_eq (by omega) (by omega)]; omega
    have w4 : W ((pre.length : Int) + 1) = (((pre ++ [TNode.mk (c : Int) ((c : Int) + 1) ((c : Int) + 2)]).length : Nat) : Int) := by rw [W, W_eq (by omega) (by omega)]; simp
    have ih := mark_loop r (pre ++ [TNode.mk (c : Int) ((c : Int) + 1) ((c : Int) + 2)]) (c + 3) (by omega) (by simp; omega)
    rw [loop_go (s' := (pre ++ TNode.mk (c : Int) ((c : Int) + 1) ((c : Int) + 2) :: r, ((c + 3 : Nat) : Int), (((pre ++ [TNode.mk (c : Int) ((c : Int) + 1) ((c : Int) + 2)]).length : Nat) : Int)))]
    · rw [List.append_assoc, List.singleton_append] at ih
      rw [ih]
      simp only [List.length_cons, markL, List.append_assoc, List.singleton_append]
      rw [show c + 3 + 3 * r.length = c + 3 * (r.length + 1) by omega]
    · dsimp only; unfold laws_markNodeS.b0
      rw [if_pos (by simp; omega)]
      simp only [ck_mid, Option.bind_some, set_mid, w1, w2, w3, w4]
      simp
theorem mark_from (xs : List TNode) (c : Nat) (h : xs.length ≤ 2000000) (hc : c ≤ 20000000) : laws_markNodeS xs (c : Int) = some (((c + 3 * xs.length : Nat) : Int), markL c xs) := by
  unfold laws_markNodeS
  have := mark_loop xs [] c (by omega) (by simp; omega)
  simp only [List.nil_append] at this
  have e : loop (fun s : List TNode × Int × Int => laws_markNodeS.b0 s.1 s.2.1 s.2.2) (xs, (c : Int), 0) = _ := this
  rw [e]; rfl
theorem mark_eq (xs : List TNode) (h : xs.length ≤ 2000000) : laws_markNodeS xs 1 = some (((1 + 3 * xs.length : Nat) : Int), markL 1 xs) := mark_from xs 1 h (by omega)
end Go.Proofs.Ythdoebgikbfndaa
end

/- Places of the nodes of time; nodes that are too many. -/
section
namespace Go.Proofs.Ythdoebgikbfndaa
open Go Go.RowKit E
set_option linter.unusedVariables false

theorem szNodeS_eq (xs : List TNode) (k : Int) (h : xs.length ≤ 9223372036854775807) (hk : 0 ≤ k ∧ k ≤ 1048576) : laws_szNodeS xs k = if (xs.length : Int) ≤ k then k - xs.length else -1 := by
  unfold laws_szNodeS
  rw [W, W_eq (by omega) (by omega)]
  split <;> split <;> omega
end Go.Proofs.Ythdoebgikbfndaa
end

/- The automaton of a formula: the law. -/
section
namespace Go.Proofs.Ythdoebgikbfndaa
open Go Go.RowKit E
set_option linter.unusedVariables false

theorem pureLtlGen (e : List TNode) (w : e.length ≤ 9223372036854775807 ∧ ∀ q ∈ e, TNode.wf q) (p : Int) (wp : inI p) : laws_FnExactLtlGen e p = some true := by
  unfold laws_FnExactLtlGen
  rw [szNodeS_eq e _ w.1 (by omega)]
  by_cases hl : e.length ≤ 1048576
  · rw [if_neg (by rw [if_pos (by omega)]; omega)]
    obtain ⟨⟨g, b⟩, r1, r2, r3⟩ := ltlGen_eq e p
    simp only at r3
    have he := eqGen_self g (by omega)
    have hm := markGen_eq g (by omega)
    have hh := heldGen_eq g (by omega)
    simp only [toNodeS_eq e hl, Option.bind_some, r1, r2, he, eqNodeS_eq e e hl, mark_eq e (by omega : e.length ≤ 2000000), hm, hh]
    simp only [bnd_eq, Bool.not_true, beq_self_eq_true, Bool.or_self, Bool.false_eq_true, if_false, Option.bind_some, decide_true]
    rw [show (decide (((1 + 3 * e.length : Nat) : Int) < 0)) = false by simp; omega, Bool.not_false, whenO_t, Option.bind_some]
    have hz : ¬ ((1 + 4 * g.edges.length : Nat) : Int) < 0 := by omega
    simp only [hz, Bool.not_true, Bool.or_self, Bool.false_eq_true, if_false, Option.bind_some, ne_eq, not_true_eq_false]
  · rw [if_pos (by rw [if_neg (by omega)]; omega)]
end Go.Proofs.Ythdoebgikbfndaa
end
