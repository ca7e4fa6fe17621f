/- A drawn expression is read from its text as it was; a text that is read is printed and read again as the same. -/
import Derived.Test.YtmmgpcnngaekoaaDExprText
import Derived.Test.YtmmgpcnngaekoaaWf
import Derived.Test.YtmmgpcnngaekoaaPExprTxt
import Derived.Test.YtmmgpcnngaekoaaPExprParseN
import Derived.Test.YtmmgpcnngaekoaaPDrawS
namespace Go.Proofs.Ytmmgpcnngaekoaa
open Go Go.RowKit E
set_option linter.unusedVariables false

theorem appN {l m : List TNode} (h : l.length + m.length ≤ 1000000000) : app 24 l m = some (l ++ m) := app_small h (by omega)
theorem drawEx_tree : ∀ (d K : Nat) {c : Tl1Cur} {e : List TNode}, d < K → CurOk c → d ≤ 10 → e.length + 2 ^ (d + 1) ≤ 100000 → ∃ (t : GT) (c' : Tl1Cur), spec_l2DrawTree K c (d : Int) e = some (e ++ t.nodes e.length, c') ∧ CurOk c' ∧ t.wf exP ∧ t.size < 2 ^ (d + 1) := by
  intro d
  induction d with
  | zero =>
    intro K c e hK hc _ hl
    obtain ⟨K, rfl⟩ : ∃ k, K = k + 1 := ⟨K - 1, by omega⟩
    unfold spec_l2DrawTree spec_l2DrawTree.body
    obtain ⟨x, c1, e1, h1, h2, hc1⟩ := below_pos hc (n := 9) (by decide) (by decide)
    obtain ⟨x2, c2, e2, h3, h4, hc2⟩ := below_pos hc1 (n := 4) (by decide) (by decide)
    rw [e1, Option.bind_some, if_pos (by simp), e2, Option.bind_some]
    unfold spec_l2DrawTree.k0
    obtain ⟨x3, c3, e3, h5, h6, hc3⟩ := below_pos hc2 (n := 3) (by decide) (by decide)
    by_cases k : x2 < 2
    · rw [if_pos k, e3, Option.bind_some, appN (by simp <;> omega), Option.bind_some]
      exact ⟨.leaf 3 x3, _, rfl, hc3, ex0' (.inr (.inr ⟨rfl, by omega, by omega⟩)), by simp [GT.z1, GT.z2, GT.size]⟩
    by_cases k3 : x2 = 2
    · rw [if_neg k, if_pos k3, appN (by simp <;> omega), Option.bind_some]
      exact ⟨.leaf 1 0, _, rfl, hc2, ex0' (.inl ⟨rfl, rfl⟩), by simp [GT.z1, GT.z2, GT.size]⟩
    · rw [if_neg k, if_neg k3, if_pos (by dsimp only; omega), appN (by simp <;> omega), Option.bind_some]
      exact ⟨.leaf 2 0, _, rfl, hc2, ex0' (.inr (.inl ⟨rfl, rfl⟩)), by simp [GT.z1, GT.z2, GT.size]⟩
  | succ d ih =>
    intro K c e hK hc hd hl
    obtain ⟨K, rfl⟩ : ∃ k, K = k + 1 := ⟨K - 1, by omega⟩
    have hp : 2 ^ (d + 1 + 1) = 2 ^ (d + 1) + 2 ^ (d + 1) := by rw [Nat.pow_succ]; omega
    have hp2 : 2 ≤ 2 ^ (d + 1) := by rw [Nat.pow_succ]; have := Nat.two_pow_pos d; omega
    unfold spec_l2DrawTree spec_l2DrawTree.body
    obtain ⟨x, c1, e1, h1, h2, hc1⟩ := below_pos hc (n := 9) (by decide) (by decide)
    rw [e1, Option.bind_some, if_neg (by omega)]
    have wd : W (((d + 1 : Nat) : Int) - 1) = (d : Int) := by rw [W, W_eq (by omega) (by omega)]; omega
    have hc1' : CurOk (Tl1Cur.mk c1.b c1.i c1.h) := hc1
    obtain ⟨x3, c3, e3, h5, h6, hc3⟩ := below_pos hc1' (n := 3) (by decide) (by decide)
    obtain ⟨t5, c5, g1, g2, g3, g4⟩ := ih K (e := e) (by omega) hc1' (by omega) (by omega)
    have p5 := t5.pos
    have l5 : (e ++ t5.nodes e.length).length = e.length + t5.size := by rw [List.length_append, t5.len]
    unfold spec_l2DrawTree.k0
    dsimp only
    by_cases k1 : x < 2
    · rw [if_pos k1, e3, Option.bind_some, appN (by simp <;> omega), Option.bind_some]
      exact ⟨.leaf 3 x3, _, rfl, hc3, ex0' (.inr (.inr ⟨rfl, by omega, by omega⟩)), by simp [GT.z1, GT.z2, GT.size] <;> omega⟩
    by_cases k2 : x = 2
    · rw [if_neg k1, if_pos k2, appN (by simp <;> omega), Option.bind_some]
      exact ⟨.leaf 1 0, _, rfl, hc1', ex0' (.inl ⟨rfl, rfl⟩), by simp [GT.z1, GT.z2, GT.size] <;> omega⟩
    by_cases k3 : x = 3
    · rw [if_neg k1, if_neg k2, if_pos k3, appN (by simp <;> omega), Option.bind_some]
      exact ⟨.leaf 2 0, _, rfl, hc1', ex0' (.inr (.inl ⟨rfl, rfl⟩)), by simp [GT.z1, GT.z2, GT.size] <;> omega⟩
    by_cases k4 : x < 6
    · rw [if_neg k1, if_neg k2, if_neg k3, if_pos k4, wd, g1, Option.bind_some]
      dsimp only
      rw [l5, Wn (by omega) (by omega), appN (by rw [l5]; simp <;> omega), Option.bind_some]
      refine ⟨.one 4 t5, _, ?_, g2, ⟨g3, ex1'⟩, by simp [GT.z1, GT.z2, GT.size] <;> omega⟩
      simp only [GT.n0, GT.n1, GT.n2]
      rw [List.append_assoc]
    · obtain ⟨t6, c6, i1, i2, i3, i4⟩ := ih K (e := e ++ t5.nodes e.length) (by omega) g2 (by omega) (by rw [l5]; omega)
      obtain ⟨x7, c7, e7, h9, h10, hc7⟩ := below_pos i2 (n := 2) (by decide) (by decide)
      have p6 := t6.pos
      have l6 : (e ++ t5.nodes e.length ++ t6.nodes (e.length + t5.size)).length = e.length + t5.size + t6.size := by rw [List.length_append, l5, t6.len]
      rw [l5] at i1
      rw [if_neg k1, if_neg k2, if_neg k3, if_neg k4, wd, g1, Option.bind_some]
      dsimp only
      rw [i1, Option.bind_some]
      dsimp only
      rw [e7, Option.bind_some]
      dsimp only
      rw [l5, l6, Wn (by omega) (by omega), Wn (by omega) (by omega), appN (by rw [l6]; simp <;> omega), Option.bind_some]
      have w7 : W (5 + x7) = 5 + x7 := W_eq (by omega) (by omega)
      rw [w7]
      refine ⟨.two (5 + x7) t5 t6, _, ?_, hc7, ⟨g3, i3, ?_⟩, by simp [GT.z1, GT.z2, GT.size] <;> omega⟩
      · simp only [GT.n0, GT.n1, GT.n2]
        simp only [List.append_assoc]
      · have : x7 = 0 ∨ x7 = 1 := by omega
        rcases this with rfl | rfl
        · exact ex5'
        · exact ex6'
theorem drawExpr_ok {K : Nat} (hK : 5 ≤ K) {c : Tl1Cur} (hc : CurOk c) : ∃ (t : GT) (c' : Tl1Cur), spec_l2DrawExpr K c = some (t.nodes 0, c') ∧ CurOk c' ∧ t.wf exP ∧ t.size ≤ 31 := by
  unfold spec_l2DrawExpr
  obtain ⟨x0, c0, e0, y1, y2, hc0⟩ := below_pos hc (n := 4) (by decide) (by decide)
  have w : W (1 + x0) = ((1 + x0.toNat : Nat) : Int) := by rw [W, W_eq (by omega) (by omega)]; omega
  have hp : 2 ^ (1 + x0.toNat + 1) ≤ 2 ^ 5 := Nat.pow_le_pow_right (by omega) (by omega)
  have h32 : 2 ^ 5 = 32 := rfl
  obtain ⟨t, c1, g1, hc1, g3, g4⟩ := drawEx_tree (1 + x0.toNat) K (c := c0) (e := []) (by omega) hc0 (by omega) (by simp <;> omega)
  rw [e0, Option.bind_some]
  dsimp only
  rw [w, g1, Option.bind_some]
  exact ⟨t, c1, rfl, hc1, g3, by omega⟩
theorem drawExAny_ok {K : Nat} (hK : 5 ≤ K) {c : Tl1Cur} (hc : CurOk c) : ∃ e' c', spec_l2DrawAny K c = some (e', c') ∧ CurOk c' ∧ e'.length ≤ 33 := by
  unfold spec_l2DrawAny
  obtain ⟨t, c1, g1, hc1, tw, ts⟩ := drawExpr_ok hK hc
  have hp := t.pos
  have hl := t.len 0
  generalize t.nodes 0 = e at g1 hl
  obtain ⟨x, c2, e2, h1, h2, hc2⟩ := below_pos hc1 (n := (e.length : Int)) (by omega) (by omega)
  obtain ⟨y, c3, e3, h3, h4, hc3⟩ := below_pos hc2 (n := 20) (by decide) (by decide)
  rw [g1, Option.bind_some]
  dsimp only
  rw [if_neg (by omega), e2, Option.bind_some, e3, Option.bind_some]
  have hck : ck x e.length = some x.toNat := by unfold ck; rw [if_pos ⟨h1, by omega⟩]
  unfold spec_l2DrawAny.k0
  dsimp only
  split
  · obtain ⟨z, c4, e4, _, _, hc4⟩ := below_pos hc3 (n := 8) (by decide) (by decide)
    rw [e4, Option.bind_some, hck, Option.bind_some]
    exact ⟨_, _, rfl, hc4, by simp; omega⟩
  split
  · rw [ix_ok h1 h2, Option.bind_some, hck, Option.bind_some]
    exact ⟨_, _, rfl, hc3, by simp; omega⟩
  split
  · obtain ⟨z, c4, e4, _, _, hc4⟩ := below_pos hc3 (n := (e.length : Int)) (by omega) (by omega)
    rw [e4, Option.bind_some, hck, Option.bind_some]
    exact ⟨_, _, rfl, hc4, by simp; omega⟩
  split
  · rw [appN (by simp; omega), Option.bind_some]
    exact ⟨_, _, rfl, hc3, by simp; omega⟩
  split
  · exact ⟨_, _, rfl, hc3, by simp⟩
  · exact ⟨_, _, rfl, hc3, by omega⟩
theorem drawExprParse_ok {bs : List Int} (h : bs.length ≤ 1048576) {K : Nat} (hK : 40 ≤ K) : ∃ s, spec_DrawExprParse K bs = some s := by
  unfold spec_DrawExprParse
  obtain ⟨c0, e0, h0⟩ := new_ok bs h
  obtain ⟨t0, c01, e01, h01, tw0, ts0⟩ := drawExpr_ok (K := K) (by omega) h0
  have tp0 := t0.pos
  have hp0 : spec_l2Print K (t0.nodes 0) ((0 : Nat) : Int) = some _ := l2Print_eq (treeOk_nodes (GT.treeOk tw0 ts0)) 0 K (by rw [t0.len]; omega) (by omega)
  obtain ⟨t, c1, e1, h1, tw, ts⟩ := drawExpr_ok (K := K) (by omega) h01
  have hn := treeOk_nodes (GT.treeOk tw ts)
  have tp := t.pos
  have hz := exTxt_size t
  have hT : (exTexts (t.nodes 0)).getD (t.size - 1) default = exTxt t := exTexts_tree tw
  have hp : spec_l2Print K (t.nodes 0) (((t.nodes 0).length - 1 : Nat) : Int) = some (exTxt t) := by
    rw [l2Print_eq hn _ K (by rw [t.len]; omega) (by rw [t.len]; omega), t.len, hT]
  have hp0 : spec_l2Print K (t0.nodes 0) 0 = some _ := hp0
  obtain ⟨b, c2, e2, h2⟩ := once_ok h1 (n := 3) (by decide)
  rw [e0, Option.bind_some, e01, Option.bind_some]
  dsimp only
  rw [hp0, Option.bind_some, e1, Option.bind_some]
  dsimp only
  rw [Wn (by rw [t.len]; omega) (by rw [t.len]; omega), hp, Option.bind_some, e2, Option.bind_some]
  have k1 : ∀ (c : Tl1Cur) (s : ByteArray), CurOk c → s.size ≤ 10000 → ∃ r, spec_DrawExprParse.k1 c.b c.i c.h s = some r := by
    intro c s hc hs
    unfold spec_DrawExprParse.k1
    have hc' : CurOk (Tl1Cur.mk c.b c.i c.h) := hc
    obtain ⟨b, c3, e3, h3⟩ := once_ok hc' (n := 25) (by decide)
    rw [e3, Option.bind_some]
    split
    · obtain ⟨r, g1, g2⟩ := longer_ok (fun t => cat ⟨#[33]⟩ t) (fun t ht => by
        obtain ⟨t', a1, a2⟩ := catS (a := ⟨#[33]⟩) (b := t) (by show 1 + t.size ≤ _; omega)
        exact ⟨t', a1, by rw [a2]; show 1 + t.size = _; omega⟩) h3 (s := s) (by omega)
      have g1 : loop (fun s : ((List Int) × Int × Int × ByteArray) => spec_DrawExprParse.b0 s.1 s.2.1 s.2.2.1 s.2.2.2) (c3.b, c3.i, c3.h, s) = some r := g1
      dsimp only
      rw [g1, Option.bind_some]
      exact ⟨_, rfl⟩
    · exact ⟨_, rfl⟩
  have k0 : ∀ (c : Tl1Cur) (s : ByteArray), CurOk c → s.size ≤ 1000 → ∃ r, spec_DrawExprParse.k0 c.b c.i c.h s = some r := by
    intro c s hc hs
    unfold spec_DrawExprParse.k0
    have hc' : CurOk (Tl1Cur.mk c.b c.i c.h) := hc
    obtain ⟨b, c3, e3, h3⟩ := once_ok hc' (n := 2) (by decide)
    rw [e3, Option.bind_some]
    split
    · obtain ⟨t, c4, g1, g2, g3⟩ := dent_ok h3 (s := s) (by omega) (bits := [{ data := #[33] }, { data := #[40] }, { data := #[41] }, { data := #[38] }, { data := #[124] }, { data := #[48] }, { data := #[51] }, { data := #[116] }, { data := #[120] }, { data := #[32] }]) (by decide) (by decide) (by
        intro b hb
        simp only [List.mem_cons, List.not_mem_nil, or_false] at hb
        rcases hb with rfl | rfl | rfl | rfl | rfl | rfl | rfl | rfl | rfl | rfl <;> decide)
      rw [g1, Option.bind_some]
      exact k1 c4 t g3 (by omega)
    · exact k1 c3 s h3 (by omega)
  split
  · obtain ⟨x, c3, e3, hx, h3⟩ := pickS_ok h2 (xs := [{ data := #[48, 38, 49, 124, 50] }, { data := #[48, 124, 49, 38, 50, 124, 33, 48] }, { data := #[33, 40, 48, 124, 49, 41, 38, 50] }, { data := #[116] }, { data := #[40, 40, 48, 41, 41] }, { data := #[33, 33, 102] }, { data := #[48, 38, 49, 38, 50, 124, 116, 124, 102] }]) (by decide) (by decide)
    rw [e3, Option.bind_some]
    refine k0 c3 x h3 ?_
    simp only [List.mem_cons, List.not_mem_nil, or_false] at hx
    rcases hx with rfl | rfl | rfl | rfl | rfl | rfl | rfl <;> decide
  · exact k0 c2 (exTxt t) h2 (by omega)
theorem same_self (e : List TNode) (h : e.length ≤ 1000000) : laws_sameNodes e e = some true := by
  unfold laws_sameNodes
  rw [if_neg (by simp)]
  have h1 := eq_loop (fun a b : TNode => some (decide (a.kind = b.kind ∧ a.a = b.a ∧ a.b = b.b))) (fun a b => by
    congr 1
    rw [decide_eq_decide]
    cases a; cases b; simp) e e rfl (by omega)
  have h2 : loop (fun s : Int => laws_sameNodes.b0 e e s) 0 = some (if e = e then (.inl () : Unit ⊕ Bool) else .inr false) := h1
  rw [h2, Option.bind_some, if_pos rfl]; rfl
theorem pureExprText (bs : List Int) (w : bs.length ≤ 9223372036854775807 ∧ ∀ q ∈ bs, (IntKind.u8.min ≤ q ∧ q ≤ IntKind.u8.max)) : laws_FnExprText 900 bs = some true := by
  unfold laws_FnExprText
  by_cases hb : laws_big bs = true
  · rw [if_pos hb]
  have h : bs.length ≤ 1048576 := by unfold laws_big at hb; simp at hb; omega
  obtain ⟨c0, e0, h0⟩ := new_ok bs h
  obtain ⟨e, c1, e1, h1, l1⟩ := drawExAny_ok (K := 900) (by decide) h0
  have hd : spec_DrawExprPrint 900 bs = some e := by
    unfold spec_DrawExprPrint
    rw [e0, Option.bind_some, e1, Option.bind_some]
  rw [if_neg hb, hd, Option.bind_some, implExprPrint_eq, Option.bind_some, specExprOk_eq, Option.bind_some]
  by_cases ht : treeOk exP e = true
  · obtain ⟨t, rfl, tw, ts⟩ := tree_of exKinded ht
    rw [if_neg (by rw [ht]; simp), exPrint_tree tw ts, exParse_tree tw ts, Option.bind_some]
    simp only [bnd_eq]
    have hz := exTxt_size t
    rw [decide_eq_false (show ¬ ((0 : Int) ≠ 0) by decide), decide_eq_false (show ¬ (((exTxt t).size : Int) ≠ ((exTxt t).size : Int)) by simp), decide_eq_true (show ((exTxt t).size : Int) ≤ 200 by omega)]
    simp only [Bool.or_self, Bool.not_false, Bool.and_self, whenO_t, same_self _ (show (t.nodes 0).length ≤ 1000000 by rw [t.len]; omega), Option.bind_some, Bool.not_true, Bool.false_or, Bool.and_false, Bool.false_eq_true, if_false]
    obtain ⟨s, hs⟩ := drawExprParse_ok h (K := 900) (by decide)
    obtain ⟨r, r1, r2, r3, r4⟩ := exprParse_eq s
    rw [hs, Option.bind_some, r2, Option.bind_some, r1, Option.bind_some]
    simp only [ne_eq, not_true_eq_false, decide_false, Bool.or_self, Bool.false_eq_true, if_false]
    by_cases hc : r.2.2 = 0
    · rw [if_neg (by simp [hc])]
      obtain ⟨u, u1, u2, u3⟩ := exParse_well r2 hc
      rw [implExprPrint_eq, Option.bind_some, u3, exPrint_tree u1 u2, exParse_tree u1 u2, Option.bind_some]
      simp only [decide_true, whenO_t, same_self _ (show (u.nodes 0).length ≤ 1000000 by rw [u.len]; omega), Option.bind_some, Bool.and_self]
    · rw [if_pos (by simp [hc])]
      have hq : r.1.length = 0 ∧ r.2.1 ≤ (s.size : Int) := r4 hc
      rw [hq.1, decide_eq_true (by rfl), decide_eq_true hq.2]; rfl
  · rw [if_pos (by simpa using ht)]
    have : exPrint e = ⟨#[]⟩ := by unfold exPrint; rw [if_neg ht]
    rw [this]
    simp only [bnd_eq]
    have e2 : ((⟨#[]⟩ : ByteArray).toList == (⟨#[]⟩ : ByteArray).toList) = true := by simp
    rw [e2, whenO_t, implExprOk_eq, Option.bind_some, Bool.eq_false_iff.mpr ht]; rfl
end Go.Proofs.Ytmmgpcnngaekoaa
