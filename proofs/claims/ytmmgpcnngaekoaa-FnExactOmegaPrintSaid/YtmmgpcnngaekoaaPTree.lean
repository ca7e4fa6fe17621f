/- Trees of nodes: what both ways of telling them find. -/
import Derived.Test.YtmmgpcnngaekoaaDOmegaPrint
import Derived.Test.YtmmgpcnngaekoaaQ0
namespace Go.Proofs.Ytmmgpcnngaekoaa
open Go Go.RowKit E
set_option linter.unusedVariables false

/-- The sizes of the trees of all nodes, one node more. -/
def sizeStep (p : TNode → Int) (ss : List Int) (n : TNode) : Option (List Int) :=
  if p n = 0 then some (ss ++ [1])
  else if p n = 1 then (if 1 ≤ ss.length ∧ n.a = (ss.length : Int) - 1 ∧ n.b = 0 then some (ss ++ [1 + ss.getD (ss.length - 1) 0]) else none)
  else if p n = 2 then (if 1 ≤ ss.length ∧ n.b = (ss.length : Int) - 1 ∧ 0 ≤ (ss.length : Int) - 1 - ss.getD (ss.length - 1) 0 ∧ n.a = (ss.length : Int) - 1 - ss.getD (ss.length - 1) 0 then some (ss ++ [1 + ss.getD (ss.length - 1) 0 + ss.getD n.a.toNat 0]) else none)
  else none
def sizesFrom (p : TNode → Int) : List Int → List TNode → Option (List Int)
  | ss, [] => some ss
  | ss, n :: r => match sizeStep p ss n with
    | some ss' => sizesFrom p ss' r
    | none => none
def treeOk (p : TNode → Int) (e : List TNode) : Bool :=
  decide (1 ≤ e.length ∧ e.length ≤ 31) && match sizesFrom p [] e with
    | some ss => decide (ss.getD (e.length - 1) 0 = (e.length : Int))
    | none => false
/-- What sizes are right: none is below one, and none reaches further than to the first node. -/
def Sized (ss : List Int) : Prop := ∀ i, i < ss.length → 1 ≤ ss.getD i 0 ∧ ss.getD i 0 ≤ (i : Int) + 1
theorem Sized.nil : Sized [] := fun i h => by simp at h
theorem getD_app {ss : List Int} {x : Int} {i : Nat} : (ss ++ [x]).getD i 0 = if i < ss.length then ss.getD i 0 else if i = ss.length then x else 0 := by
  by_cases h : i < ss.length
  · rw [if_pos h]; simp [List.getD, List.getElem?_append_left h]
  · rw [if_neg h]
    by_cases k : i = ss.length
    · subst k; simp
    · rw [if_neg k]; simp [List.getD, List.getElem?_eq_none (by simp; omega : (ss ++ [x]).length ≤ i)]
theorem Sized.snoc {ss : List Int} (h : Sized ss) {x : Int} (h1 : 1 ≤ x) (h2 : x ≤ (ss.length : Int) + 1) : Sized (ss ++ [x]) := by
  intro i hi
  rw [getD_app]
  by_cases k : i < ss.length
  · rw [if_pos k]; exact h i k
  · have : i = ss.length := by simp at hi; omega
    rw [if_neg k, if_pos this]; omega
theorem sizeStep_sized {p : TNode → Int} {ss ss' : List Int} {n : TNode} (h : Sized ss) (hs : sizeStep p ss n = some ss') : Sized ss' ∧ ss'.length = ss.length + 1 := by
  unfold sizeStep at hs
  split at hs
  · cases hs; exact ⟨h.snoc (by omega) (by omega), by simp⟩
  · split at hs
    · split at hs
      · rename_i k; cases hs
        have := h (ss.length - 1) (by omega)
        exact ⟨h.snoc (by omega) (by omega), by simp⟩
      · cases hs
    · split at hs
      · split at hs
        · rename_i k; cases hs
          have h1 := h (ss.length - 1) (by omega)
          have h2 := h n.a.toNat (by omega)
          exact ⟨h.snoc (by omega) (by omega), by simp⟩
        · cases hs
      · cases hs

theorem getL {ss : List Int} {i : Int} (h : 0 ≤ i) (k : i < ss.length) : ix ss i = some (ss.getD i.toNat 0) := ix_ok h k

/-- The reference's sizes. -/
theorem l2Sizes_from (p : TNode → Int) (e : List TNode) (ps : List Int) (hps : ps.length = e.length) (he : e.length ≤ 31) (hp : ∀ i, i < e.length → ps.getD i 0 = p (e.getD i default) ∨ (ps.getD i 0 = 0 ∧ p (e.getD i default) ≠ 0 ∧ p (e.getD i default) ≠ 1 ∧ p (e.getD i default) ≠ 2 ∧ (e.getD i default).b ≠ 0))
    (hq : ∀ i, i < e.length → ps.getD i 0 = 0 ∨ ps.getD i 0 = 1 ∨ ps.getD i 0 = 2) (hb : ∀ n, p n = 0 → n.b = 0) :
    ∀ (r pre : List TNode) (ss : List Int), e = pre ++ r → ss.length = pre.length → Sized ss →
      loop (fun s : List Int × Int => spec_l2Sizes.b0 e ps s.1 s.2) (ss, (pre.length : Int)) = some (match sizesFrom p ss r with | some s => .inl s | none => .inr []) := by
  intro r
  induction r with
  | nil =>
    intro pre ss h hl hS
    refine loop_end ?_
    unfold spec_l2Sizes.b0
    rw [if_neg (by rw [h]; simp)]; rfl
  | cons n r ih =>
    intro pre ss h hl hS
    have hk : pre.length < e.length := by rw [h]; simp
    have hn : e.getD pre.length default = n := by rw [h]; simp
    have hix : ix e (pre.length : Int) = some n := by rw [ix_nat hk, hn]
    have hp0 := hp _ hk
    have hq0 := hq _ hk
    have hixp : ix ps (pre.length : Int) = some (ps.getD pre.length 0) := ix_nat (by omega)
    rw [hn] at hp0
    have go : ∀ x, sizeStep p ss n = some (ss ++ [x]) → spec_l2Sizes.b0 e ps ss (pre.length : Int) = some (.inl (ss ++ [x], ((pre.length + 1 : Nat) : Int))) →
        loop (fun s : List Int × Int => spec_l2Sizes.b0 e ps s.1 s.2) (ss, (pre.length : Int)) = some (match sizesFrom p ss (n :: r) with | some s => .inl s | none => .inr []) := by
      intro x h1 h2
      rw [loop_go h2]
      have := ih (pre ++ [n]) (ss ++ [x]) (by rw [h]; simp) (by simp [hl]) (sizeStep_sized hS h1).1
      simp only [List.length_append, List.length_singleton] at this
      rw [this]
      simp only [sizesFrom, h1]
    have stop : sizeStep p ss n = none → spec_l2Sizes.b0 e ps ss (pre.length : Int) = some (.inr (.inr [])) →
        loop (fun s : List Int × Int => spec_l2Sizes.b0 e ps s.1 s.2) (ss, (pre.length : Int)) = some (match sizesFrom p ss (n :: r) with | some s => .inl s | none => .inr []) := by
      intro h1 h2
      rw [loop_end h2]; simp only [sizesFrom, h1]
    have happ : ∀ x, app 8 ss [x] = some (ss ++ [x]) := fun x => app_small (by simp; omega) (by omega)
    have hw : IntKind.i64.wrap ((pre.length : Int) + 1) = ((pre.length + 1 : Nat) : Int) := W_nat (by omega)
    have hw1 : IntKind.i64.wrap ((pre.length : Int) - 1) = (pre.length : Int) - 1 := W_eq (by omega) (by omega)
    have unf : spec_l2Sizes.b0 e ps ss (pre.length : Int) = spec_l2Sizes.b0 e ps ss (pre.length : Int) := rfl
    unfold spec_l2Sizes.b0 at go stop
    simp only [if_pos (show (pre.length : Int) < (e.length : Int) by omega), hix, hixp, Option.bind_some, bnd, W, hw, hw1] at go stop
    have hlast : 1 ≤ pre.length → 1 ≤ ss.getD (pre.length - 1) 0 ∧ ss.getD (pre.length - 1) 0 ≤ (pre.length : Int) := fun g => by
      have := hS (pre.length - 1) (by omega); omega
    have hlx : 1 ≤ pre.length → ix ss ((pre.length : Int) - 1) = some (ss.getD (pre.length - 1) 0) := fun g => by
      rw [getL (by omega) (by omega), show ((pre.length : Int) - 1).toNat = pre.length - 1 by omega]
    generalize hz : ss.getD (pre.length - 1) 0 = z at *
    have hz' : ss.getD (ss.length - 1) 0 = z := by rw [hl]; exact hz
    rcases hq0 with q0 | q0 | q0
    · rw [q0] at go stop hp0
      by_cases hb0 : n.b = 0
      · have hp1 : p n = 0 := by
          rcases hp0 with g | g
          · exact g.symm
          · exact absurd hb0 g.2.2.2.2
        exact go 1 (by simp [sizeStep, hp1]) (by simp [hb0, happ])
      · have hp1 : p n ≠ 0 ∧ p n ≠ 1 ∧ p n ≠ 2 := by
          rcases hp0 with g | g
          · exact absurd (hb n g.symm) hb0
          · exact ⟨g.2.1, g.2.2.1, g.2.2.2.1⟩
        exact stop (by simp [sizeStep, hp1]) (by simp [hb0])
    · rw [q0] at go stop hp0
      have hp1 : p n = 1 := by
        rcases hp0 with g | g
        · exact g.symm
        · exact absurd g.1 (by omega)
      by_cases hc : 1 ≤ pre.length ∧ n.a = (pre.length : Int) - 1 ∧ n.b = 0
      · obtain ⟨c1, c2, c3⟩ := hc
        have hl1 := hlast c1
        have hw2 : IntKind.i64.wrap (1 + z) = 1 + z := W_eq (by omega) (by omega)
        refine go (1 + z) (by unfold sizeStep; rw [if_neg (by omega), if_pos hp1, hz', if_pos (by rw [hl]; omega)]) ?_
        rw [if_pos rfl, if_neg (by simp; omega), hlx c1]
        simp only [Option.bind_some, hw2, happ]
      · refine stop (by unfold sizeStep; rw [if_neg (by omega), if_pos hp1, if_neg (by rw [hl]; omega)]) ?_
        rw [if_pos rfl, if_pos (by simp; omega)]
    · rw [q0] at go stop hp0
      have hp1 : p n = 2 := by
        rcases hp0 with g | g
        · exact g.symm
        · exact absurd g.1 (by omega)
      rw [if_neg (by omega), if_pos rfl] at stop
      simp only [if_neg (show ¬ (2 : Int) = 1 by omega), if_pos] at go
      by_cases c1 : 2 ≤ pre.length ∧ n.b = (pre.length : Int) - 1
      · have hl1 := hlast (by omega)
        have hw2 : IntKind.i64.wrap ((pre.length : Int) - 1 - z) = (pre.length : Int) - 1 - z := W_eq (by omega) (by omega)
        rw [if_neg (by simp; omega), hlx (by omega), Option.bind_some, hw2] at stop
        simp only [hlx (show 1 ≤ pre.length by omega), Option.bind_some, hw2] at go
        by_cases c2 : 0 ≤ (pre.length : Int) - 1 - z ∧ n.a = (pre.length : Int) - 1 - z
        · have hx : ix ss ((pre.length : Int) - 1 - z) = some (ss.getD n.a.toNat 0) := by rw [getL (by omega) (by omega), c2.2]
          have h2 := hS n.a.toNat (by omega)
          have hw3 : IntKind.i64.wrap (1 + z) = 1 + z := W_eq (by omega) (by omega)
          have hw4 : IntKind.i64.wrap (1 + z + ss.getD n.a.toNat 0) = 1 + z + ss.getD n.a.toNat 0 := W_eq (by omega) (by omega)
          refine go (1 + z + ss.getD n.a.toNat 0) ?_ ?_
          · unfold sizeStep
            rw [if_neg (by omega), if_neg (by omega), if_pos hp1, hz', if_pos (by rw [hl]; omega)]
          · rw [if_neg (by simp; omega), if_neg (by simp; omega), hx]
            simp only [Option.bind_some, hw3, hw4, happ]
        · refine stop ?_ ?_
          · unfold sizeStep
            rw [if_neg (by omega), if_neg (by omega), if_pos hp1, hz', if_neg (by rw [hl]; omega)]
          · rw [if_pos (by simp; omega)]
      · refine stop ?_ ?_
        · unfold sizeStep
          rw [if_neg (by omega), if_neg (by omega), if_pos hp1, hz', if_neg]
          rw [hl]
          rintro ⟨g1, g2, g3, g4⟩
          have := hlast (by omega)
          exact c1 ⟨by omega, g2⟩
        · rw [if_pos (by simp; omega)]

/-- Where the trees of the first nodes begin; 0 behind them. -/
def begL (ss : List Int) (m : Nat) : List Int := ss.mapIdx (fun j s => (j : Int) + 1 - s) ++ List.replicate (m - ss.length) 0
theorem begL_len (ss : List Int) (m : Nat) (h : ss.length ≤ m) : (begL ss m).length = m := by unfold begL; simp; omega
theorem begL_get {ss : List Int} {m i : Nat} (h : i < ss.length) : (begL ss m).getD i 0 = (i : Int) + 1 - ss.getD i 0 := by
  unfold begL
  rw [List.getD_eq_getElem?_getD, List.getElem?_append_left (by simpa using h)]
  simp [h]
theorem begL_set {ss : List Int} {m : Nat} {x z : Int} (h : ss.length < m) (hx : z = (ss.length : Int) + 1 - x) : (begL ss m).set ss.length z = begL (ss ++ [x]) m := by
  unfold begL
  rw [List.set_append_right _ _ (by simp), List.mapIdx_append, show m - ss.length = (m - (ss.length + 1)) + 1 by omega, List.replicate_succ]
  simp [hx]
theorem begins_from (p : TNode → Int) (e : List TNode) (he : e.length ≤ 31) :
    ∀ (r pre : List TNode) (ss : List Int), e = pre ++ r → ss.length = pre.length → Sized ss →
      loop (fun s : List Int × Int => impl_begins.b0 e (fun n => some (p n)) s.1 s.2) (begL ss e.length, (pre.length : Int)) = some (match sizesFrom p ss r with | some s => .inl (begL s e.length) | none => .inr ([], false)) := by
  intro r
  induction r with
  | nil =>
    intro pre ss h hl hS
    refine loop_end ?_
    unfold impl_begins.b0
    rw [if_neg (by rw [h]; simp)]; rfl
  | cons n r ih =>
    intro pre ss h hl hS
    have hk : pre.length < e.length := by rw [h]; simp
    have hn : e.getD pre.length default = n := by rw [h]; simp
    have hix : ix e (pre.length : Int) = some n := by rw [ix_nat hk, hn]
    have hbl := begL_len ss e.length (by omega)
    have hck : ck (pre.length : Int) (begL ss e.length).length = some pre.length := ck_nat (by omega)
    have go : ∀ x, sizeStep p ss n = some (ss ++ [x]) → impl_begins.b0 e (fun n => some (p n)) (begL ss e.length) (pre.length : Int) = some (.inl (begL (ss ++ [x]) e.length, ((pre.length + 1 : Nat) : Int))) →
        loop (fun s : List Int × Int => impl_begins.b0 e (fun n => some (p n)) s.1 s.2) (begL ss e.length, (pre.length : Int)) = some (match sizesFrom p ss (n :: r) with | some s => .inl (begL s e.length) | none => .inr ([], false)) := by
      intro x h1 h2
      rw [loop_go h2]
      have := ih (pre ++ [n]) (ss ++ [x]) (by rw [h]; simp) (by simp [hl]) (sizeStep_sized hS h1).1
      simp only [List.length_append, List.length_singleton] at this
      rw [this]
      simp only [sizesFrom, h1]
    have stop : sizeStep p ss n = none → impl_begins.b0 e (fun n => some (p n)) (begL ss e.length) (pre.length : Int) = some (.inr (.inr ([], false))) →
        loop (fun s : List Int × Int => impl_begins.b0 e (fun n => some (p n)) s.1 s.2) (begL ss e.length, (pre.length : Int)) = some (match sizesFrom p ss (n :: r) with | some s => .inl (begL s e.length) | none => .inr ([], false)) := by
      intro h1 h2
      rw [loop_end h2]; simp only [sizesFrom, h1]
    have hw : IntKind.i64.wrap ((pre.length : Int) + 1) = ((pre.length + 1 : Nat) : Int) := W_nat (by omega)
    have hw1 : IntKind.i64.wrap ((pre.length : Int) - 1) = (pre.length : Int) - 1 := W_eq (by omega) (by omega)
    unfold impl_begins.b0 at go stop
    simp only [if_pos (show (pre.length : Int) < (e.length : Int) by omega), hix, hck, Option.bind_some, bnd, W, hw, hw1] at go stop
    have hlast : 1 ≤ pre.length → 1 ≤ ss.getD (pre.length - 1) 0 ∧ ss.getD (pre.length - 1) 0 ≤ (pre.length : Int) := fun g => by
      have := hS (pre.length - 1) (by omega); omega
    have hset : ∀ z x : Int, z = (ss.length : Int) + 1 - x → ((begL ss e.length).set pre.length (pre.length : Int)).set pre.length z = begL (ss ++ [x]) e.length := by
      intro z x hz
      rw [List.set_set, ← hl]; exact begL_set (by omega) hz
    have hset1 : (begL ss e.length).set pre.length (pre.length : Int) = begL (ss ++ [1]) e.length := by
      have := begL_set (ss := ss) (m := e.length) (x := 1) (z := (ss.length : Int)) (by omega) (by omega)
      rw [hl] at this; exact this
    have hls : ∀ z : Int, ((begL ss e.length).set pre.length z).length = e.length := fun z => by simp [hbl]
    have hget : ∀ i : Nat, i < pre.length → ix ((begL ss e.length).set pre.length (pre.length : Int)) (i : Int) = some ((i : Int) + 1 - ss.getD i 0) := by
      intro i hi
      rw [ix_nat (by rw [hls]; omega), ← begL_get (m := e.length) (by omega)]
      simp [List.getD, List.getElem?_set_ne (show pre.length ≠ i by omega)]
    have hck2 : ck (pre.length : Int) ((begL ss e.length).set pre.length (pre.length : Int)).length = some pre.length := ck_nat (by rw [hls]; omega)
    generalize hz : ss.getD (pre.length - 1) 0 = z at *
    have hz' : ss.getD (ss.length - 1) 0 = z := by rw [hl]; exact hz
    by_cases q0 : p n = 0
    · exact go 1 (by simp [sizeStep, q0]) (by rw [if_pos q0, hset1])
    rw [if_neg q0] at stop
    simp only [if_neg q0] at go
    by_cases q1 : p n = 1
    · rw [if_pos q1] at stop
      simp only [if_pos q1] at go
      by_cases hc : 1 ≤ pre.length ∧ n.a = (pre.length : Int) - 1 ∧ n.b = 0
      · obtain ⟨c1, c2, c3⟩ := hc
        refine go (1 + z) (by unfold sizeStep; rw [if_neg (by omega), if_pos q1, hz', if_pos (by rw [hl]; omega)]) ?_
        have hg := hget (pre.length - 1) (by omega)
        rw [show ((pre.length - 1 : Nat) : Int) = n.a by omega, hz] at hg
        rw [if_neg (by simp only [Bool.or_eq_true, decide_eq_true_eq]; omega), hg]
        simp only [Option.bind_some, hck2]
        rw [hset _ (1 + z) (by omega)]
      · exact stop (by unfold sizeStep; rw [if_neg (by omega), if_pos q1, if_neg (by rw [hl]; omega)]) (by rw [if_pos (by simp only [Bool.or_eq_true, decide_eq_true_eq]; omega)])
    rw [if_neg q1] at stop
    simp only [if_neg q1] at go
    by_cases q2 : p n = 2
    · rw [if_pos q2] at stop
      simp only [if_pos q2] at go
      by_cases c1 : 1 ≤ pre.length ∧ n.b = (pre.length : Int) - 1
      · have hl1 := hlast (by omega)
        have hg := hget (pre.length - 1) (by omega)
        rw [show ((pre.length - 1 : Nat) : Int) = (pre.length : Int) - 1 by omega, hz] at hg
        have hfalse : (decide ((pre.length : Int) = 0) || decide (n.b ≠ (pre.length : Int) - 1)) = false := by rw [Bool.or_eq_false_iff, decide_eq_false_iff_not, decide_eq_false_iff_not]; omega
        have hw2 : IntKind.i64.wrap ((pre.length : Int) - 1 + 1 - z - 1) = (pre.length : Int) - 1 - z := by rw [W_eq (by omega) (by omega)]; omega
        simp only [hfalse, Bool.not_false, whenO_t, hg, Option.bind_some, hw2, Bool.false_or] at go stop
        by_cases c2 : 0 ≤ (pre.length : Int) - 1 - z ∧ n.a = (pre.length : Int) - 1 - z
        · have h2 := hS n.a.toNat (by omega)
          have hg2 := hget n.a.toNat (by omega)
          rw [show ((n.a.toNat : Nat) : Int) = n.a by omega] at hg2
          refine go (1 + z + ss.getD n.a.toNat 0) (by unfold sizeStep; rw [if_neg (by omega), if_neg (by omega), if_pos q2, hz', if_pos (by rw [hl]; omega)]) ?_
          rw [if_neg (by simp only [Bool.or_eq_true, decide_eq_true_eq]; omega), hg2]
          simp only [Option.bind_some, hck2]
          rw [hset _ (1 + z + ss.getD n.a.toNat 0) (by omega)]
        · exact stop (by unfold sizeStep; rw [if_neg (by omega), if_neg (by omega), if_pos q2, hz', if_neg (by rw [hl]; omega)]) (by rw [if_pos (by simp only [Bool.or_eq_true, decide_eq_true_eq]; omega)])
      · have htrue : (decide ((pre.length : Int) = 0) || decide (n.b ≠ (pre.length : Int) - 1)) = true := by simp only [Bool.or_eq_true, decide_eq_true_eq]; omega
        simp only [htrue, Bool.not_true, whenO_f, Option.bind_some, Bool.true_or, if_true] at stop
        exact stop (by unfold sizeStep; rw [if_neg (by omega), if_neg (by omega), if_pos q2, if_neg (by rw [hl]; omega)]) (by first | trivial | rfl)
    · rw [if_neg q2] at stop
      exact stop (by unfold sizeStep; rw [if_neg q0, if_neg q1, if_neg q2]) rfl

theorem sizesFrom_sized {p : TNode → Int} : ∀ {r : List TNode} {ss s : List Int}, Sized ss → sizesFrom p ss r = some s → Sized s ∧ s.length = ss.length + r.length
  | [], ss, s, h, hs => by cases hs; exact ⟨h, by simp⟩
  | n :: r, ss, s, h, hs => by
    unfold sizesFrom at hs
    split at hs
    · rename_i ss' h1
      obtain ⟨g1, g2⟩ := sizeStep_sized h h1
      obtain ⟨k1, k2⟩ := sizesFrom_sized g1 hs
      exact ⟨k1, by simp; omega⟩
    · cases hs
theorem inRange_eq (x a b : Int) : impl_inRange x a b = decide (a ≤ x ∧ x ≤ b) := inR
theorem l1In_eq (x a b : Int) : spec_l1In x a b = decide (a ≤ x ∧ x ≤ b) := inR
theorem isTree_eq (p : TNode → Int) (e : List TNode) : impl_isTree e (fun n => some (p n)) = some (treeOk p e) := by
  unfold impl_isTree impl_begins treeOk
  rw [inRange_eq]
  by_cases h : 1 ≤ e.length ∧ e.length ≤ 31
  · rw [if_neg (by simp; omega), mk_ok (by omega) (by omega), Option.bind_some, Int.toNat_natCast]
    have h1 := begins_from p e h.2 e [] [] rfl rfl Sized.nil
    have h0 : begL [] e.length = List.replicate e.length 0 := by simp [begL]
    rw [h0] at h1
    simp only [List.length_nil, Int.natCast_zero] at h1
    rw [h1]
    cases hs : sizesFrom p [] e with
    | none => simp
    | some s =>
      obtain ⟨k1, k2⟩ := sizesFrom_sized Sized.nil hs
      simp only [List.length_nil, Nat.zero_add] at k2
      have hbl := begL_len s e.length (by omega)
      simp only [Option.bind_some, Sum.elim_inl, impl_begins.k0, W]
      rw [W_eq (by omega) (by omega), show ((e.length : Int) - 1) = ((e.length - 1 : Nat) : Int) by omega, ix_nat (by omega), Option.bind_some, show (default : Int) = 0 from rfl, begL_get (by omega)]
      simp only [Option.bind_some, h, and_self, decide_true, Bool.true_and, Option.some.injEq]
      rw [decide_eq_decide]; omega
  · rw [if_pos (by simp; omega)]; simp; omega

theorem sizesFrom_bad {p : TNode → Int} : ∀ {r : List TNode} {ss : List Int}, (∃ n ∈ r, p n ≠ 0 ∧ p n ≠ 1 ∧ p n ≠ 2) → sizesFrom p ss r = none
  | [], ss, ⟨n, h, _⟩ => by simp at h
  | m :: r, ss, ⟨n, h, k⟩ => by
    unfold sizesFrom
    rcases List.mem_cons.mp h with rfl | h
    · have : sizeStep p ss n = none := by unfold sizeStep; rw [if_neg k.1, if_neg k.2.1, if_neg k.2.2]
      rw [this]
    · split
      · exact sizesFrom_bad ⟨n, h, k⟩
      · rfl
/-- The numbers of parts, told one by one. -/
theorem parts_loop (bad : TNode → Bool) (q : TNode → Int) (e : List TNode) (hl : e.length ≤ 31) :
    loop (fun s : List Int × Int => if s.2 < (e.length : Int) then (ix e s.2).bind fun n => if bad n = true then some (.inr (.inr false)) else (app 8 s.1 [q n]).bind fun z => some (.inl (z, W (s.2 + 1))) else some (.inr (.inl s.1))) ([], 0)
      = some (if e.any bad = true then (.inr false : List Int ⊕ Bool) else .inl (e.map q)) := by
  have key : ∀ (r pre : List TNode), e = pre ++ r → loop (fun s : List Int × Int => if s.2 < (e.length : Int) then (ix e s.2).bind fun n => if bad n = true then some (.inr (.inr false)) else (app 8 s.1 [q n]).bind fun z => some (.inl (z, W (s.2 + 1))) else some (.inr (.inl s.1))) (pre.map q, (pre.length : Int))
      = some (if r.any bad = true then (.inr false : List Int ⊕ Bool) else .inl (e.map q)) := by
    intro r
    induction r with
    | nil => intro pre h; refine loop_end ?_; dsimp only; rw [if_neg (by rw [h]; simp)]; simp [h]
    | cons n r ih =>
      intro pre h
      have hk : pre.length < e.length := by rw [h]; simp
      have hix : ix e (pre.length : Int) = some n := by rw [ix_nat hk, h]; simp
      by_cases hb : bad n = true
      · rw [loop_end (r := .inr false)]
        · simp [hb]
        · dsimp only; rw [if_pos (by omega), hix, Option.bind_some, if_pos hb]
      · rw [loop_go (s' := ((pre ++ [n]).map q, ((pre ++ [n]).length : Int)))]
        · rw [ih (pre ++ [n]) (by rw [h]; simp)]
          simp [hb]
        · dsimp only
          rw [if_pos (by omega), hix, Option.bind_some, if_neg hb, app_small (by simp; omega) (by omega), Option.bind_some, W, W_nat (by omega)]
          simp
  have := key e [] rfl
  simpa using this
/-- The reference's last part: sizes out of the parts told. -/
theorem sizes_end (p q : TNode → Int) (e : List TNode) (h1 : 1 ≤ e.length) (h2 : e.length ≤ 31) (hp : ∀ n ∈ e, q n = p n ∨ (q n = 0 ∧ p n ≠ 0 ∧ p n ≠ 1 ∧ p n ≠ 2 ∧ n.b ≠ 0)) (hq : ∀ n ∈ e, q n = 0 ∨ q n = 1 ∨ q n = 2) (hb : ∀ n, p n = 0 → n.b = 0) :
    ((spec_l2Sizes e (e.map q)).bind fun a59 => bnd ((decide (((a59.length : Int)) = ((e.length : Int))))) fun c65 => (whenO c65 (ix a59 ((W (((e.length : Int)) - 1))))).bind fun a70 => some ((c65 && (decide (a70 = ((e.length : Int))))))) = some (treeOk p e) := by
  have hd : ∀ i, i < e.length → (e.map q).getD i 0 = q (e.getD i default) ∧ e.getD i default ∈ e := fun i hi => by
    refine ⟨by simp [hi], ?_⟩
    have : e.getD i default = e[i] := by simp [hi]
    rw [this]; exact List.getElem_mem hi
  have h := l2Sizes_from p e (e.map q) (by simp) h2 (fun i hi => by obtain ⟨g1, g2⟩ := hd i hi; rw [g1]; exact hp _ g2) (fun i hi => by obtain ⟨g1, g2⟩ := hd i hi; rw [g1]; exact hq _ g2) hb e [] [] rfl rfl Sized.nil
  simp only [List.length_nil, Int.natCast_zero] at h
  unfold spec_l2Sizes
  rw [h]
  unfold treeOk
  cases hs : sizesFrom p [] e with
  | none =>
    simp only [Option.bind_some, Sum.elim_inr, bnd]
    have : decide ((([] : List Int).length : Int) = (e.length : Int)) = false := by simp; omega
    rw [this]; simp [whenO_f]
  | some s =>
    obtain ⟨k1, k2⟩ := sizesFrom_sized Sized.nil hs
    simp only [List.length_nil, Nat.zero_add] at k2
    simp only [Option.bind_some, Sum.elim_inl, spec_l2Sizes.k0, bnd]
    have : decide ((s.length : Int) = (e.length : Int)) = true := by simp; omega
    rw [this, whenO_t, W, W_eq (by omega) (by omega), show ((e.length : Int) - 1) = ((e.length - 1 : Nat) : Int) by omega, ix_nat (by omega)]
    simp only [Option.bind_some, h1, h2, and_self, decide_true, Bool.true_and]
    rfl
end Go.Proofs.Ytmmgpcnngaekoaa
