/- Trees, and their nodes in order: what is right as a row of nodes is the nodes of a tree. -/
import Derived.Test.YtmmgpcnngaekoaaPTree2
namespace Go.Proofs.Ytmmgpcnngaekoaa
open Go Go.RowKit E
set_option linter.unusedVariables false

inductive GT where
  | leaf (k a : Int)
  | one (k : Int) (t : GT)
  | two (k : Int) (l r : GT)
def GT.size : GT → Nat
  | .leaf _ _ => 1
  | .one _ t => t.size + 1
  | .two _ l r => l.size + r.size + 1
def GT.nodes : GT → Nat → List TNode
  | .leaf k a, _ => [TNode.mk k a 0]
  | .one k t, o => t.nodes o ++ [TNode.mk k ((o + t.size - 1 : Nat) : Int) 0]
  | .two k l r, o => l.nodes o ++ (r.nodes (o + l.size) ++ [TNode.mk k ((o + l.size - 1 : Nat) : Int) ((o + l.size + r.size - 1 : Nat) : Int)])
def GT.wf (p : TNode → Int) : GT → Prop
  | .leaf k a => p (TNode.mk k a 0) = 0
  | .one k t => t.wf p ∧ ∀ a b, p (TNode.mk k a b) = 1
  | .two k l r => l.wf p ∧ r.wf p ∧ ∀ a b, p (TNode.mk k a b) = 2
theorem GT.pos : ∀ t : GT, 1 ≤ t.size
  | .leaf _ _ => Nat.le_refl _
  | .one _ t => by simp [GT.size]
  | .two _ l r => by simp [GT.size]
theorem GT.len : ∀ (t : GT) (o : Nat), (t.nodes o).length = t.size
  | .leaf _ _, _ => rfl
  | .one _ t, o => by simp [GT.nodes, GT.size, t.len o]
  | .two _ l r, o => by simp [GT.nodes, GT.size, l.len o, r.len]; omega
def GT.sizes : GT → List Int
  | .leaf _ _ => [1]
  | .one _ t => t.sizes ++ [((t.size + 1 : Nat) : Int)]
  | .two _ l r => l.sizes ++ (r.sizes ++ [((l.size + r.size + 1 : Nat) : Int)])
theorem GT.sizes_len : ∀ t : GT, t.sizes.length = t.size
  | .leaf _ _ => rfl
  | .one _ t => by simp [GT.sizes, GT.size, t.sizes_len]
  | .two _ l r => by simp [GT.sizes, GT.size, l.sizes_len, r.sizes_len]; omega
theorem getD_right {α : Type} (d : α) (xs ys : List α) (i : Nat) (h : xs.length ≤ i) : (xs ++ ys).getD i d = ys.getD (i - xs.length) d := by
  rw [List.getD_eq_getElem?_getD, List.getD_eq_getElem?_getD, List.getElem?_append_right h]
theorem getD_left {α : Type} (d : α) (xs ys : List α) (i : Nat) (h : i < xs.length) : (xs ++ ys).getD i d = xs.getD i d := by
  rw [List.getD_eq_getElem?_getD, List.getD_eq_getElem?_getD, List.getElem?_append_left h]
theorem GT.sizes_last : ∀ t : GT, t.sizes.getD (t.size - 1) 0 = (t.size : Int)
  | .leaf _ _ => rfl
  | .one _ t => by
    show (t.sizes ++ [((t.size + 1 : Nat) : Int)]).getD (t.size + 1 - 1) 0 = ((t.size + 1 : Nat) : Int)
    rw [getD_right _ _ _ _ (by rw [t.sizes_len]; omega), t.sizes_len, show t.size + 1 - 1 - t.size = 0 by omega]; rfl
  | .two _ l r => by
    show (l.sizes ++ (r.sizes ++ [((l.size + r.size + 1 : Nat) : Int)])).getD (l.size + r.size + 1 - 1) 0 = ((l.size + r.size + 1 : Nat) : Int)
    rw [getD_right _ _ _ _ (by rw [l.sizes_len]; omega), getD_right _ _ _ _ (by rw [l.sizes_len, r.sizes_len]; omega), l.sizes_len, r.sizes_len, show l.size + r.size + 1 - 1 - l.size - r.size = 0 by omega]; rfl
theorem GT.n0 (k a : Int) (o : Nat) : (GT.leaf k a).nodes o = [TNode.mk k a 0] := rfl
theorem GT.n1 (k : Int) (t : GT) (o : Nat) : (GT.one k t).nodes o = t.nodes o ++ [TNode.mk k ((o + t.size - 1 : Nat) : Int) 0] := rfl
theorem GT.n2 (k : Int) (l r : GT) (o : Nat) : (GT.two k l r).nodes o = l.nodes o ++ (r.nodes (o + l.size) ++ [TNode.mk k ((o + l.size - 1 : Nat) : Int) ((o + l.size + r.size - 1 : Nat) : Int)]) := rfl
theorem GT.s1 (k : Int) (t : GT) : (GT.one k t).sizes = t.sizes ++ [((t.size + 1 : Nat) : Int)] := rfl
theorem GT.s2 (k : Int) (l r : GT) : (GT.two k l r).sizes = l.sizes ++ (r.sizes ++ [((l.size + r.size + 1 : Nat) : Int)]) := rfl
theorem GT.z1 (k : Int) (t : GT) : (GT.one k t).size = t.size + 1 := rfl
theorem GT.z2 (k : Int) (l r : GT) : (GT.two k l r).size = l.size + r.size + 1 := rfl
theorem sizesFrom_cons {p : TNode → Int} (ss : List Int) (n : TNode) (r : List TNode) : sizesFrom p ss (n :: r) = (sizeStep p ss n).bind fun s => sizesFrom p s r := by
  conv => lhs; unfold sizesFrom
  cases sizeStep p ss n <;> rfl
theorem sizesFrom_app {p : TNode → Int} : ∀ (a b : List TNode) (ss : List Int), sizesFrom p ss (a ++ b) = (sizesFrom p ss a).bind fun s => sizesFrom p s b
  | [], b, ss => rfl
  | n :: a, b, ss => by
    rw [List.cons_append, sizesFrom_cons, sizesFrom_cons]
    cases h : sizeStep p ss n with
    | none => rfl
    | some s => exact sizesFrom_app a b s
theorem sizesFrom_single {p : TNode → Int} (ss : List Int) (n : TNode) : sizesFrom p ss [n] = sizeStep p ss n := by
  rw [sizesFrom_cons]
  cases sizeStep p ss n <;> rfl
theorem GT.sizesFrom_eq {p : TNode → Int} : ∀ (t : GT) (ss : List Int), t.wf p → sizesFrom p ss (t.nodes ss.length) = some (ss ++ t.sizes)
  | .leaf k a, ss, h => by
    simp only [GT.n0, GT.n1, GT.n2]
    rw [sizesFrom_single]
    unfold sizeStep
    rw [if_pos (show p (TNode.mk k a 0) = 0 from h)]; rfl
  | .one k t, ss, h => by
    have h1 := t.sizesFrom_eq ss h.1
    have hp := t.pos
    simp only [GT.n0, GT.n1, GT.n2]
    rw [sizesFrom_app, h1, Option.bind_some, sizesFrom_single]
    unfold sizeStep
    have hl : (ss ++ t.sizes).length = ss.length + t.size := by rw [List.length_append, t.sizes_len]
    rw [if_neg (by rw [h.2]; decide), if_pos (h.2 _ _), hl, if_pos ⟨by omega, by dsimp only; omega, rfl⟩, getD_right _ _ _ _ (by omega), show ss.length + t.size - 1 - ss.length = t.size - 1 by omega, t.sizes_last]
    rw [GT.s1]
    rw [List.append_assoc, show (1 : Int) + (t.size : Int) = ((t.size + 1 : Nat) : Int) by omega]
  | .two k l r, ss, h => by
    have h1 := l.sizesFrom_eq ss h.1
    have hp := l.pos
    have hq := r.pos
    have hl : (ss ++ l.sizes).length = ss.length + l.size := by rw [List.length_append, l.sizes_len]
    have h2 := r.sizesFrom_eq (ss ++ l.sizes) h.2.1
    rw [hl] at h2
    have hl2 : (ss ++ l.sizes ++ r.sizes).length = ss.length + l.size + r.size := by rw [List.length_append, hl, r.sizes_len]
    simp only [GT.n0, GT.n1, GT.n2]
    rw [sizesFrom_app, h1, Option.bind_some, sizesFrom_app, h2, Option.bind_some, sizesFrom_single]
    unfold sizeStep
    have g1 : (ss ++ l.sizes ++ r.sizes).getD (ss.length + l.size + r.size - 1) 0 = (r.size : Int) := by
      rw [getD_right _ _ _ _ (by omega), hl, show ss.length + l.size + r.size - 1 - (ss.length + l.size) = r.size - 1 by omega, r.sizes_last]
    have g2 : (ss ++ l.sizes ++ r.sizes).getD (ss.length + l.size - 1) 0 = (l.size : Int) := by
      rw [getD_left _ _ _ _ (by omega), getD_right _ _ _ _ (by omega), show ss.length + l.size - 1 - ss.length = l.size - 1 by omega, l.sizes_last]
    rw [if_neg (by rw [h.2.2]; decide), if_neg (by rw [h.2.2]; decide), if_pos (h.2.2 _ _), hl2, g1, if_pos ⟨by omega, by dsimp only; omega, by omega, by dsimp only; omega⟩]
    dsimp only
    rw [Int.toNat_natCast, g2]
    rw [GT.s2]
    rw [List.append_assoc, List.append_assoc, show (1 : Int) + (r.size : Int) + (l.size : Int) = ((l.size + r.size + 1 : Nat) : Int) by omega]
theorem GT.treeOk {p : TNode → Int} {t : GT} (h : t.wf p) (hs : t.size ≤ 31) : treeOk p (t.nodes 0) = true := by
  have h1 := t.sizesFrom_eq [] h
  have hp := t.pos
  simp only [List.length_nil, List.nil_append] at h1
  unfold Go.Proofs.Ytmmgpcnngaekoaa.treeOk
  rw [h1, t.len, decide_eq_true ⟨hp, hs⟩, Bool.true_and]
  dsimp only
  rw [t.sizes_last, decide_eq_true rfl]
/-- What is told of p: a node with parts is one by its kind alone. -/
structure Kinded (p : TNode → Int) : Prop where
  b0 : ∀ n, p n = 0 → n.b = 0
  k1 : ∀ k a b, p (TNode.mk k a b) = 1 → ∀ c d, p (TNode.mk k c d) = 1
  k2 : ∀ k a b, p (TNode.mk k a b) = 2 → ∀ c d, p (TNode.mk k c d) = 2
def Covered (p : TNode → Int) (pre : List TNode) (ss : List Int) : Prop := ss.length = pre.length ∧ ∀ i, i < pre.length → ∃ (A B : List TNode) (t : GT), pre = A ++ (t.nodes A.length ++ B) ∧ A.length + t.size = i + 1 ∧ ss.getD i 0 = (t.size : Int) ∧ t.wf p
theorem Covered.last {p : TNode → Int} {pre : List TNode} {ss : List Int} (h : Covered p pre ss) (hp : 1 ≤ pre.length) : ∃ (A : List TNode) (t : GT), pre = A ++ t.nodes A.length ∧ A.length + t.size = pre.length ∧ ss.getD (pre.length - 1) 0 = (t.size : Int) ∧ t.wf p := by
  obtain ⟨A, B, t, h1, h2, h3, h4⟩ := h.2 (pre.length - 1) (by omega)
  have hB : B = [] := by
    apply List.eq_nil_of_length_eq_zero
    have := congrArg List.length h1
    simp only [List.length_append, t.len] at this
    omega
  subst hB
  rw [List.append_nil] at h1
  exact ⟨A, t, h1, by omega, h3, h4⟩
theorem Covered.snoc {p : TNode → Int} {pre : List TNode} {ss : List Int} (h : Covered p pre ss) {n : TNode} {x : Int} {A : List TNode} {t : GT} (h1 : pre ++ [n] = A ++ t.nodes A.length) (h2 : x = (t.size : Int)) (h3 : t.wf p) : Covered p (pre ++ [n]) (ss ++ [x]) := by
  refine ⟨by simp [h.1], fun i hi => ?_⟩
  rw [List.length_append, List.length_singleton] at hi
  by_cases hlt : i < pre.length
  · obtain ⟨A, B, t, g1, g2, g3, g4⟩ := h.2 i hlt
    refine ⟨A, B ++ [n], t, ?_, g2, ?_, g4⟩
    · conv => lhs; rw [g1]
      simp only [List.append_assoc]
    · rw [getD_left _ _ _ _ (by rw [h.1]; exact hlt)]; exact g3
  · refine ⟨A, [], t, by rw [List.append_nil]; exact h1, ?_, ?_, h3⟩
    · have := congrArg List.length h1
      simp only [List.length_append, t.len, List.length_singleton] at this
      omega
    · rw [getD_right _ _ _ _ (by rw [h.1]; omega), h.1, show i - pre.length = 0 by omega]
      exact h2
theorem covered_step {p : TNode → Int} (hk : Kinded p) {pre : List TNode} {ss ss' : List Int} {n : TNode} (h : Covered p pre ss) (hs : sizeStep p ss n = some ss') : Covered p (pre ++ [n]) ss' := by
  obtain ⟨k, a, b⟩ := n
  unfold sizeStep at hs
  split at hs
  · rename_i p0
    obtain rfl := Option.some.inj hs
    have hb := hk.b0 _ p0
    dsimp only at hb
    subst hb
    exact h.snoc (A := pre) (t := .leaf k a) rfl rfl p0
  · split at hs
    · rename_i p1
      split at hs
      · rename_i c
        obtain ⟨c1, c2, c3⟩ := c
        dsimp only at c2 c3
        obtain rfl := Option.some.inj hs
        rw [h.1] at c1 c2 ⊢
        obtain ⟨A, t, g1, g2, g3, g4⟩ := h.last c1
        subst c3
        refine h.snoc (A := A) (t := .one k t) ?_ (by rw [g3]; simp [GT.z1, GT.z2, GT.size]; omega) ⟨g4, hk.k1 _ _ _ p1⟩
        simp only [GT.n0, GT.n1, GT.n2]
        conv => lhs; rw [g1]
        rw [List.append_assoc, c2, g2, show ((pre.length : Int) - 1) = ((pre.length - 1 : Nat) : Int) by omega]
      · cases hs
    · split at hs
      · rename_i p2
        split at hs
        · rename_i c
          obtain ⟨c1, c2, c3, c4⟩ := c
          dsimp only at c2 c4
          obtain rfl := Option.some.inj hs
          rw [h.1] at c1 c2 c3 c4 ⊢
          dsimp only
          obtain ⟨A, r, g1, g2, g3, g4⟩ := h.last c1
          rw [g3] at c3 c4 ⊢
          have hr := r.pos
          obtain ⟨A2, B2, l, f1, f2, f3, f4⟩ := h.2 a.toNat (by omega)
          rw [f3]
          have hA : A = A2 ++ l.nodes A2.length := by
            have e1 : A ++ r.nodes A.length = (A2 ++ l.nodes A2.length) ++ B2 := by rw [← g1, f1, List.append_assoc]
            exact (List.append_inj e1 (by rw [List.length_append, l.len]; omega)).1
          have hAl : A.length = A2.length + l.size := by rw [hA, List.length_append, l.len]
          refine h.snoc (A := A2) (t := .two k l r) ?_ (by simp [GT.z1, GT.z2, GT.size]; omega) ⟨f4, g4, hk.k2 _ _ _ p2⟩
          simp only [GT.n0, GT.n1, GT.n2]
          conv => lhs; rw [g1]
          rw [← hAl, show a = ((A.length - 1 : Nat) : Int) by omega, show b = ((A.length + r.size - 1 : Nat) : Int) by omega]
          conv => lhs; lhs; lhs; rw [hA]
          simp only [List.append_assoc]
        · cases hs
      · cases hs
theorem covered_from {p : TNode → Int} (hk : Kinded p) : ∀ (r pre : List TNode) (ss s : List Int), Covered p pre ss → sizesFrom p ss r = some s → Covered p (pre ++ r) s
  | [], pre, ss, s, h, hs => by
    have : ss = s := Option.some.inj hs
    subst this; rw [List.append_nil]; exact h
  | n :: r, pre, ss, s, h, hs => by
    unfold sizesFrom at hs
    split at hs
    · rename_i ss' h1
      have := covered_from hk r (pre ++ [n]) ss' s (covered_step hk h h1) hs
      rw [List.append_assoc] at this
      exact this
    · cases hs
theorem tree_of {p : TNode → Int} (hk : Kinded p) {e : List TNode} (h : treeOk p e = true) : ∃ t : GT, e = t.nodes 0 ∧ t.wf p ∧ t.size ≤ 31 := by
  unfold treeOk at h
  rw [Bool.and_eq_true, decide_eq_true_eq] at h
  obtain ⟨h1, h2⟩ := h
  cases hs : sizesFrom p [] e with
  | none => rw [hs] at h2; cases h2
  | some s =>
    rw [hs] at h2
    dsimp only at h2
    rw [decide_eq_true_eq] at h2
    have hc := covered_from hk e [] [] s ⟨rfl, fun i hi => absurd hi (by simp)⟩ hs
    rw [List.nil_append] at hc
    obtain ⟨A, t, g1, g2, g3, g4⟩ := hc.last h1.1
    have hA : A = [] := List.eq_nil_of_length_eq_zero (by omega)
    subst hA
    exact ⟨t, g1, g4, by simp only [List.length_nil] at g2; omega⟩
/-- What is told of each node by its parts, told of a tree. -/
theorem GT.accum_eq {β : Type} (f : TNode → List β → β) (g : GT → β) (d : β) (p : TNode → Int)
    (hl : ∀ k a ts, p (TNode.mk k a 0) = 0 → f (TNode.mk k a 0) ts = g (.leaf k a))
    (h1 : ∀ k t ts (n : Nat), (∀ a b, p (TNode.mk k a b) = 1) → ts.getD n d = g t → f (TNode.mk k (n : Int) 0) ts = g (.one k t))
    (h2 : ∀ k l r ts (n m : Nat), (∀ a b, p (TNode.mk k a b) = 2) → ts.getD n d = g l → ts.getD m d = g r → f (TNode.mk k (n : Int) (m : Int)) ts = g (.two k l r)) :
    ∀ (t : GT) (ts : List β), t.wf p → ∃ us, accum f ts (t.nodes ts.length) = ts ++ us ∧ us.length = t.size ∧ us.getD (t.size - 1) d = g t
  | .leaf k a, ts, h => ⟨[g (.leaf k a)], by
      show accum f ts [TNode.mk k a 0] = _
      unfold accum accum
      rw [hl _ _ _ h], rfl, rfl⟩
  | .one k t, ts, h => by
    obtain ⟨us, e1, e2, e3⟩ := GT.accum_eq f g d p hl h1 h2 t ts h.1
    have hp := t.pos
    refine ⟨us ++ [g (.one k t)], ?_, by simp [GT.size, e2], ?_⟩
    · show accum f ts (t.nodes ts.length ++ [TNode.mk k ((ts.length + t.size - 1 : Nat) : Int) 0]) = _
      rw [accum_app, e1]
      unfold accum accum
      rw [h1 k t _ _ h.2 (by rw [getD_right _ _ _ _ (by omega), show ts.length + t.size - 1 - ts.length = t.size - 1 by omega, e3]), List.append_assoc]
    · rw [getD_right _ _ _ _ (by simp [GT.z1, GT.z2, GT.size]; omega), show (GT.one k t).size - 1 - us.length = 0 by simp [GT.z1, GT.z2, GT.size]; omega]; rfl
  | .two k l r, ts, h => by
    obtain ⟨us, e1, e2, e3⟩ := GT.accum_eq f g d p hl h1 h2 l ts h.1
    obtain ⟨vs, i1, i2, i3⟩ := GT.accum_eq f g d p hl h1 h2 r (ts ++ us) h.2.1
    have hp := l.pos
    have hq := r.pos
    have hlen : (ts ++ us).length = ts.length + l.size := by rw [List.length_append, e2]
    rw [hlen] at i1
    refine ⟨us ++ (vs ++ [g (.two k l r)]), ?_, by simp [GT.size, e2, i2]; omega, ?_⟩
    · show accum f ts (l.nodes ts.length ++ (r.nodes (ts.length + l.size) ++ [TNode.mk k ((ts.length + l.size - 1 : Nat) : Int) ((ts.length + l.size + r.size - 1 : Nat) : Int)])) = _
      rw [accum_app, e1, accum_app, i1]
      unfold accum accum
      rw [h2 k l r _ _ _ h.2.2 (by rw [getD_left _ _ _ _ (by omega), getD_right _ _ _ _ (by omega), show ts.length + l.size - 1 - ts.length = l.size - 1 by omega, e3]) (by rw [getD_right _ _ _ _ (by omega), hlen, show ts.length + l.size + r.size - 1 - (ts.length + l.size) = r.size - 1 by omega, i3])]
      simp only [List.append_assoc]
    · rw [getD_right _ _ _ _ (by simp [GT.z1, GT.z2, GT.size]; omega), getD_right _ _ _ _ (by simp [GT.z1, GT.z2, GT.size]; omega), show (GT.two k l r).size - 1 - us.length - vs.length = 0 by simp [GT.z1, GT.z2, GT.size]; omega]; rfl
end Go.Proofs.Ytmmgpcnngaekoaa
