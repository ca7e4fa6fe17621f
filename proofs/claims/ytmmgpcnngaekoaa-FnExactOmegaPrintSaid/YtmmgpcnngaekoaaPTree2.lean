/- Trees of nodes: where the parts of a node lie; what is told of each node by its parts. -/
import Derived.Test.YtmmgpcnngaekoaaPTree
namespace Go.Proofs.Ytmmgpcnngaekoaa
open Go Go.RowKit E
set_option linter.unusedVariables false

/-- A node at place i has its parts ahead of it. -/
def NodeAt (p : TNode → Int) (i : Nat) (n : TNode) : Prop :=
  p n = 0 ∨ (p n = 1 ∧ 1 ≤ i ∧ n.a = (i : Int) - 1 ∧ n.b = 0) ∨ (p n = 2 ∧ 1 ≤ i ∧ n.b = (i : Int) - 1 ∧ 0 ≤ n.a ∧ n.a < (i : Int) - 1)
theorem sizeStep_node {p : TNode → Int} {ss ss' : List Int} {n : TNode} (hS : Sized ss) (h : sizeStep p ss n = some ss') : NodeAt p ss.length n := by
  unfold sizeStep at h
  split at h
  · rename_i k; exact .inl k
  · split at h
    · rename_i k
      split at h
      · rename_i g; exact .inr (.inl ⟨k, g.1, g.2.1, g.2.2⟩)
      · cases h
    · split at h
      · rename_i k
        split at h
        · rename_i g
          have := hS (ss.length - 1) (by omega)
          exact .inr (.inr ⟨k, g.1, g.2.1, by omega, by omega⟩)
        · cases h
      · cases h
theorem sizesFrom_nodes {p : TNode → Int} : ∀ {r : List TNode} {ss s : List Int}, Sized ss → sizesFrom p ss r = some s → ∀ i, i < r.length → NodeAt p (ss.length + i) (r.getD i default)
  | [], _, _, _, _, i, hi => by simp at hi
  | n :: r, ss, s, hS, h, i, hi => by
    unfold sizesFrom at h
    split at h
    · rename_i ss' h1
      obtain ⟨g1, g2⟩ := sizeStep_sized hS h1
      cases i with
      | zero => exact sizeStep_node hS h1
      | succ i =>
        have := sizesFrom_nodes g1 h i (by simpa using hi)
        rw [g2] at this
        simpa [Nat.add_assoc, Nat.add_comm 1 i] using this
    · cases h
/-- A right tree: its nodes. -/
def Nodes (p : TNode → Int) (e : List TNode) : Prop := 1 ≤ e.length ∧ e.length ≤ 31 ∧ ∀ i, i < e.length → NodeAt p i (e.getD i default)
theorem treeOk_nodes {p : TNode → Int} {e : List TNode} (h : treeOk p e = true) : Nodes p e := by
  unfold treeOk at h
  rw [Bool.and_eq_true, decide_eq_true_eq] at h
  obtain ⟨h1, h2⟩ := h
  cases hs : sizesFrom p [] e with
  | none => rw [hs] at h2; cases h2
  | some s =>
    refine ⟨h1.1, h1.2, fun i hi => ?_⟩
    have := sizesFrom_nodes Sized.nil hs i hi
    simpa using this

/-- What is told of each node, by what is told of those ahead. -/
def accum {β : Type} (f : TNode → List β → β) : List β → List TNode → List β
  | ts, [] => ts
  | ts, n :: r => accum f (ts ++ [f n ts]) r
theorem accum_len {β : Type} (f : TNode → List β → β) : ∀ (r : List TNode) (ts : List β), (accum f ts r).length = ts.length + r.length
  | [], ts => by simp [accum]
  | n :: r, ts => by rw [accum, accum_len f r]; simp; omega
theorem accum_app {β : Type} (f : TNode → List β → β) : ∀ (r s : List TNode) (ts : List β), accum f ts (r ++ s) = accum f (accum f ts r) s
  | [], s, ts => rfl
  | n :: r, s, ts => by rw [List.cons_append, accum, accum_app f r s, accum]
theorem accum_pre {β : Type} (f : TNode → List β → β) : ∀ (r : List TNode) (ts : List β), ∃ us, accum f ts r = ts ++ us
  | [], ts => ⟨[], by simp [accum]⟩
  | n :: r, ts => by
    obtain ⟨us, h⟩ := accum_pre f r (ts ++ [f n ts])
    exact ⟨f n ts :: us, by rw [accum, h]; simp⟩
/-- The i-th thing told. -/
theorem accum_get {β : Type} (f : TNode → List β → β) (d : β) (e : List TNode) {i : Nat} (hi : i < e.length) : (accum f [] e).getD i d = f (e.getD i default) (accum f [] (e.take i)) := by
  have h : e = e.take i ++ e.getD i default :: e.drop (i + 1) := by
    have : e.getD i default = e[i] := by simp [hi]
    rw [this]; simp
  have hl : (accum f [] (e.take i)).length = i := by rw [accum_len]; simp; omega
  obtain ⟨us, hu⟩ := accum_pre f (e.drop (i + 1)) (accum f [] (e.take i) ++ [f (e.getD i default) (accum f [] (e.take i))])
  have : accum f [] e = accum f [] (e.take i) ++ f (e.getD i default) (accum f [] (e.take i)) :: us := by
    conv => lhs; rw [h]
    rw [accum_app, accum, hu]; simp
  rw [this, List.getD_eq_getElem?_getD, List.getElem?_append_right (by omega), hl]
  simp
theorem accum_take {β : Type} (f : TNode → List β → β) (d : β) (e : List TNode) {i j : Nat} (hi : i ≤ e.length) (hj : j < i) : (accum f [] (e.take i)).getD j d = (accum f [] e).getD j d := by
  have hl : (accum f [] (e.take i)).length = i := by rw [accum_len]; simp; omega
  obtain ⟨us, hu⟩ := accum_pre f (e.drop i) (accum f [] (e.take i))
  have : accum f [] e = accum f [] (e.take i) ++ us := by
    rw [← hu, ← accum_app, List.take_append_drop]
  rw [this, List.getD_eq_getElem?_getD, List.getD_eq_getElem?_getD, List.getElem?_append_left (by omega)]
theorem accum_snoc {β : Type} (f : TNode → List β → β) (e : List TNode) {i : Nat} (hi : i < e.length) : accum f [] (e.take (i + 1)) = accum f [] (e.take i) ++ [f (e.getD i default) (accum f [] (e.take i))] := by
  have : e.getD i default = e[i] := by simp [hi]
  rw [List.take_succ_eq_append_getElem hi, accum_app, accum, accum, this]
end Go.Proofs.Ytmmgpcnngaekoaa
