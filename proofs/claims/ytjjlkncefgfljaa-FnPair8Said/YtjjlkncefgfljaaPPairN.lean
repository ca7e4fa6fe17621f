/- A pair of two formulas: the program puts together what the reference does. -/
import Derived.Test.YtjjlkncefgfljaaDPair8
import Derived.Test.YtjjlkncefgfljaaPLtlOk
import Derived.Test.YtjjlkncefgfljaaPReaderT
namespace Go.Proofs.Ytjjlkncefgfljaa
open Go Go.RowKit E
set_option linter.unusedVariables false

theorem app24L {l m : List TNode} (h : l.length + m.length ≤ 1000000000) : app 24 l m = some (l ++ m) := app_small h (by omega)
theorem two8_eq {l : List TNode} {k a : Int} (h : l.length ≤ 1000000) : spec_l8Two l k a = some (l ++ [TNode.mk k a (W ((l.length : Int) - 1))]) := by
  unfold spec_l8Two; rw [app24L (by simp; omega)]; rfl
noncomputable def mv (y : Int) (n : TNode) : TNode := if ltP n = 1 then ⟨n.kind, n.a + y, n.b⟩ else if ltP n = 2 then ⟨n.kind, n.a + y, n.b + y⟩ else n
theorem nodeAt_mid {e pre r : List TNode} {n : TNode} (he : Nodes ltP e) (h : e = pre ++ n :: r) : NodeAt ltP pre.length n := by
  have := he.2.2 pre.length (by rw [h]; simp)
  rw [h] at this; simpa using this
theorem moved_loop {e : List TNode} (he : Nodes ltP e) {y : Nat} (hy : y ≤ 31) : ∀ (r pre : List TNode), e = pre ++ r → loop (fun s : List TNode × Int => spec_l8Moved.b0 e (y : Int) s.1 s.2) (pre.map (mv y), (pre.length : Int)) = some (e.map (mv y))
  | [], pre, h => loop_end (by dsimp only; unfold spec_l8Moved.b0; rw [if_neg (by rw [h]; simp)]; rw [h]; simp)
  | n :: r, pre, h => by
    have hlen : pre.length + (r.length + 1) = e.length := by rw [h]; simp
    have h31 := he.2.1
    have hn := nodeAt_mid he h
    have hk := ltKinds hn
    have hp := ltP_eq n
    have hq := l8Parts_eq n.kind
    have w4 : W ((pre.length : Int) + 1) = (((pre ++ [n]).length : Nat) : Int) := by rw [W, W_eq (by omega) (by omega)]; simp
    have hix : ix e (pre.length : Int) = some n := by rw [h]; exact ix_mid pre n r
    have ih := moved_loop he hy r (pre ++ [n]) (by rw [h]; simp)
    rw [List.map_append, List.map_singleton] at ih
    rw [loop_go (s' := (pre.map (mv y) ++ [mv y n], (((pre ++ [n]).length : Nat) : Int)))]
    · exact ih
    · have ha : ∀ x : TNode, app 24 (pre.map (mv y)) [x] = some (pre.map (mv y) ++ [x]) := fun x => app24L (by simp; omega)
      dsimp only; unfold spec_l8Moved.b0 spec_l8Moved.k1
      rw [if_pos (by omega), hix, Option.bind_some]
      rcases hk with hk | hk | hk
      · have e1 : spec_l8Parts n.kind = 0 := by rw [hq, if_pos (by omega)]
        have e2 : ltP n = 0 := by
          rw [hp]; rcases hk.1 with g | g
          · rw [if_pos g.1, if_pos ⟨hk.2, g.2⟩]
          · rw [if_neg (by omega), if_pos g.1, if_pos ⟨hk.2, g.2⟩]
        rw [e1, if_neg (by omega), if_neg (by omega), ha, Option.bind_some, w4]
        unfold mv; rw [e2, if_neg (by omega), if_neg (by omega)]
      · have e1 : spec_l8Parts n.kind = 1 := by rw [hq, if_neg (by omega), if_pos (by omega)]
        have e2 : ltP n = 1 := by rw [hp, if_neg (by omega), if_neg (by omega), if_pos (by omega)]
        rw [e1, if_pos (by omega), if_neg (by omega), W, W_eq (by omega) (by omega), ha, Option.bind_some, w4]
        unfold mv; rw [e2, if_pos rfl]
      · have e1 : spec_l8Parts n.kind = 2 := by rw [hq, if_neg (by omega), if_neg (by omega), if_pos (by omega)]
        have e2 : ltP n = 2 := by rw [hp, if_neg (by omega), if_neg (by omega), if_neg (by omega), if_pos (by omega)]
        have wa : W (n.a + (y : Int)) = n.a + y := W_eq (by omega) (by omega)
        have wb : W (n.b + (y : Int)) = n.b + y := W_eq (by omega) (by omega)
        rw [e1, if_pos (by omega), if_pos rfl, wa, wb, ha, Option.bind_some, w4]
        unfold mv; rw [e2, if_neg (by omega), if_pos rfl]
theorem pair_loop {f e : List TNode} (hf : f.length ≤ 31) (he : Nodes ltP e) {s : ByteArray} {c d : Int} : ∀ (r pre : List TNode), e = pre ++ r → loop (fun q : ByteArray × Int × Int × List TNode × Int => impl_LtlPair.b0 e f q.1 q.2.1 q.2.2.1 q.2.2.2.1 q.2.2.2.2) (s, c, d, f ++ pre.map (mv f.length), (pre.length : Int)) = some (s, c, d, f ++ e.map (mv f.length))
  | [], pre, h => loop_end (by dsimp only; unfold impl_LtlPair.b0; rw [if_neg (by rw [h]; simp)]; rw [h]; simp)
  | n :: r, pre, h => by
    have hlen : pre.length + (r.length + 1) = e.length := by rw [h]; simp
    have h31 := he.2.1
    have hn := nodeAt_mid he h
    have hk := ltKinds hn
    have hp := ltP_eq n
    have w4 : W ((pre.length : Int) + 1) = (((pre ++ [n]).length : Nat) : Int) := by rw [W, W_eq (by omega) (by omega)]; simp
    have hix : ix e (pre.length : Int) = some n := by rw [h]; exact ix_mid pre n r
    have ih := pair_loop hf he (s := s) (c := c) (d := d) r (pre ++ [n]) (by rw [h]; simp)
    rw [List.map_append, List.map_singleton, ← List.append_assoc] at ih
    rw [loop_go (s' := (s, c, d, f ++ pre.map (mv f.length) ++ [mv f.length n], (((pre ++ [n]).length : Nat) : Int)))]
    · exact ih
    · have ha : ∀ x : TNode, app 24 (f ++ pre.map (mv f.length)) [x] = some (f ++ pre.map (mv f.length) ++ [x]) := fun x => app24L (by simp; omega)
      dsimp only; unfold impl_LtlPair.b0 impl_LtlPair.k1
      rw [if_pos (by omega), hix, Option.bind_some]
      rcases hk with hk | hk | hk
      · have e2 : impl_ltlParts n = 0 := by
          show ltP n = 0
          rw [hp]; rcases hk.1 with g | g
          · rw [if_pos g.1, if_pos ⟨hk.2, g.2⟩]
          · rw [if_neg (by omega), if_pos g.1, if_pos ⟨hk.2, g.2⟩]
        rw [e2, if_neg (by omega), if_neg (by omega), ha, Option.bind_some, w4]
        unfold mv; rw [show ltP n = 0 from e2, if_neg (by omega), if_neg (by omega)]
      · have e2 : impl_ltlParts n = 1 := by show ltP n = 1; rw [hp, if_neg (by omega), if_neg (by omega), if_pos (by omega)]
        rw [e2, if_pos rfl, W, W_eq (by omega) (by omega), ha, Option.bind_some, w4]
        unfold mv; rw [show ltP n = 1 from e2, if_pos rfl]
      · have e2 : impl_ltlParts n = 2 := by show ltP n = 2; rw [hp, if_neg (by omega), if_neg (by omega), if_neg (by omega), if_pos (by omega)]
        have wa : W (n.a + (f.length : Int)) = n.a + f.length := W_eq (by omega) (by omega)
        have wb : W (n.b + (f.length : Int)) = n.b + f.length := W_eq (by omega) (by omega)
        rw [e2, if_neg (by omega), if_pos rfl, wa, wb, ha, Option.bind_some, w4]
        unfold mv; rw [show ltP n = 2 from e2, if_neg (by omega), if_pos rfl]
noncomputable def ltPair (k : Int) (f g : List TNode) : List TNode × Bool :=
  if (k = 5 ∨ k = 6 ∨ k = 8 ∨ k = 9) ∧ treeOk ltP f = true ∧ treeOk ltP g = true ∧ f.length + g.length < 31 then
    ((f ++ g.map (mv f.length)) ++ [TNode.mk k (W ((f.length : Int) - 1)) (W (((f ++ g.map (mv f.length)).length : Int) - 1))], true) else ([], false)
theorem specPair_eq (k : Int) (f g : List TNode) : spec_LtlPair k f g = some (ltPair k f g) := by
  unfold spec_LtlPair ltPair
  simp only [bnd_eq]
  rw [specLtlOk_eq, specLtlOk_eq]
  by_cases hk : k = 5 ∨ k = 6 ∨ k = 8 ∨ k = 9
  · have e1 : spec_l8Parts k = 2 := by rw [l8Parts_eq, if_neg (by omega), if_neg (by omega), if_pos (by omega)]
    rw [e1, decide_eq_false (by omega : ¬ (2 : Int) ≠ 2), Bool.not_false, whenO_t, Option.bind_some, Bool.false_or]
    cases hf : treeOk ltP f with
    | false => rw [Bool.not_false, Bool.not_true, whenO_f, Option.bind_some, if_pos (by simp), if_neg (by simp)]
    | true =>
      rw [Bool.not_true, Bool.not_false, whenO_t, Option.bind_some, Bool.false_or]
      cases hg : treeOk ltP g with
      | false => rw [if_pos (by simp), if_neg (by simp)]
      | true =>
        have nf := treeOk_nodes hf
        have ng := treeOk_nodes hg
        have f31 := nf.2.1
        have g31 := ng.2.1
        rw [Bool.not_true, Bool.false_or, W, W_eq (by omega) (by omega)]
        by_cases hl : f.length + g.length < 31
        · rw [if_neg (by simp; omega), if_pos ⟨hk, rfl, rfl, hl⟩, app24L (by simp; omega), Option.bind_some]
          unfold spec_l8Moved
          have h1 := moved_loop ng f31 g [] rfl
          have h2 : loop (fun s : List TNode × Int => spec_l8Moved.b0 g (f.length : Int) s.1 s.2) ([], 0) = some (g.map (mv f.length)) := h1
          rw [h2, Option.bind_some]
          unfold spec_l8Moved.k0
          rw [Option.bind_some, List.nil_append, app24L (by simp; omega), Option.bind_some, two8_eq (by simp; omega)]; rfl
        · rw [if_pos (by simp; omega), if_neg (fun x => hl x.2.2.2)]
  · have e1 : ¬ spec_l8Parts k = 2 := by
      rw [l8Parts_eq]
      split
      · omega
      · split <;> (try split) <;> omega
    rw [decide_eq_true e1, Bool.not_true, whenO_f, Option.bind_some, Bool.true_or, Bool.not_true, whenO_f, Option.bind_some, if_pos (by simp), if_neg (fun x => hk x.1)]
theorem implPair_eq (k : Int) (f g : List TNode) : impl_LtlPair k f g = some (ltPair k f g) := by
  unfold impl_LtlPair ltPair
  simp only [bnd_eq]
  rw [implLtlOk_eq, implLtlOk_eq]
  by_cases hk : k = 5 ∨ k = 6 ∨ k = 8 ∨ k = 9
  · have e1 : (((decide (k ≠ 5) && decide (k ≠ 6)) && decide (k ≠ 8)) && decide (k ≠ 9)) = false := by
      rw [Bool.eq_false_iff]; simp only [ne_eq, Bool.and_eq_true, decide_eq_true_eq]; omega
    rw [e1, Bool.not_false, whenO_t, Option.bind_some, Bool.false_or]
    cases hf : treeOk ltP f with
    | false => rw [Bool.not_false, Bool.not_true, whenO_f, Option.bind_some, if_pos (by simp), if_neg (by simp)]
    | true =>
      rw [Bool.not_true, Bool.not_false, whenO_t, Option.bind_some, Bool.false_or]
      cases hg : treeOk ltP g with
      | false => rw [if_pos (by simp), if_neg (by simp)]
      | true =>
        have nf := treeOk_nodes hf
        have ng := treeOk_nodes hg
        have f31 := nf.2.1
        have g31 := ng.2.1
        rw [if_neg (by simp), app24L (by simp; omega), Option.bind_some, List.nil_append]
        have h1 := pair_loop (s := ⟨#[]⟩) (c := 0) (d := 0) f31 ng g [] rfl
        rw [List.map_nil, List.append_nil] at h1
        have h2 : loop (fun q : ByteArray × Int × Int × List TNode × Int => impl_LtlPair.b0 g f q.1 q.2.1 q.2.2.1 q.2.2.2.1 q.2.2.2.2) (⟨#[]⟩, 0, 0, f, 0) = some (⟨#[]⟩, 0, 0, f ++ g.map (mv f.length)) := h1
        rw [h2, Option.bind_some]
        unfold impl_LtlPair.k0
        rw [two_eq (by simp; omega), Option.bind_some]
        unfold impl_fitting
        by_cases hl : f.length + g.length < 31
        · rw [if_neg (by simp; omega), if_pos ⟨hk, rfl, rfl, hl⟩]; rfl
        · rw [if_pos (by simp; omega), if_neg (fun x => hl x.2.2.2)]; rfl
  · have e1 : (((decide (k ≠ 5) && decide (k ≠ 6)) && decide (k ≠ 8)) && decide (k ≠ 9)) = true := by
      simp only [ne_eq, Bool.and_eq_true, decide_eq_true_eq]; omega
    rw [e1, Bool.not_true, whenO_f, Option.bind_some, Bool.true_or, Bool.not_true, whenO_f, Option.bind_some, if_pos (by simp), if_neg (fun x => hk x.1)]
theorem ltPair_len (k : Int) (f g : List TNode) : (ltPair k f g).1.length ≤ 31 := by
  unfold ltPair
  split
  · simp; omega
  · simp
end Go.Proofs.Ytjjlkncefgfljaa
