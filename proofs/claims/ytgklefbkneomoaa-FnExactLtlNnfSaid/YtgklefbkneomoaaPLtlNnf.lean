/- Formulas without not, finally and globally: both sides build the same. -/
import Derived.Test.YtgklefbkneomoaaDLtlNnf
import Derived.Test.YtgklefbkneomoaaWf
import Derived.Test.YtgklefbkneomoaaPLtlOk
import Derived.Test.YtgklefbkneomoaaPNode
import Derived.Test.YtgklefbkneomoaaPReader
import Derived.Test.YtgklefbkneomoaaPMark
import Derived.Test.YtgklefbkneomoaaPTemp
namespace Go.Proofs.Ytgklefbkneomoaa
open Go Go.RowKit E
set_option linter.unusedVariables false

theorem app24 {l : List TNode} {x : TNode} (h : l.length ≤ 1000000000000) : app 24 l [x] = some (l ++ [x]) := app_ok (by simp; omega) (by simp; omega)
theorem two8_eq {l : List TNode} {k a : Int} (h : l.length ≤ 1000000000000) : spec_l8Two l k a = some (l ++ [TNode.mk k a (W ((l.length : Int) - 1))]) := by
  unfold spec_l8Two; rw [app24 h]; rfl
theorem contrary_eq (k : Int) : impl_contrary k = if k = 1 then 2 else if k = 2 then 1 else if k = 5 then 6 else if k = 6 then 5 else if k = 8 then 9 else if k = 9 then 8 else if k = 10 then 11 else if k = 11 then 10 else k := by
  unfold impl_contrary
  (repeat' split) <;> first | rfl | omega
theorem second_eq {e : List TNode} {K : Nat} {s : ByteArray} {at_ c : Int} {l l' : List TNode} {k i : Int} {neg : Bool} (h : impl_reader_nnf K ⟨s, at_, c, l⟩ e i neg = some (⟨s, at_, c, l'⟩, e)) (hl : l'.length ≤ 1000000000000) : impl_reader_second (K + 1) ⟨s, at_, c, l⟩ k e i neg = some (⟨s, at_, c, l' ++ [TNode.mk k (W ((l.length : Int) - 1)) (W ((l'.length : Int) - 1))]⟩, e) := by
  show impl_reader_second.body (impl_reader_nnf K) (impl_reader_second K) ⟨s, at_, c, l⟩ k e i neg = _
  unfold impl_reader_second.body
  dsimp only
  rw [h, Option.bind_some]
  dsimp only
  rw [two_eq hl]; rfl
theorem nnf_eq {e : List TNode} (he : Nodes ltP e) {s : ByteArray} {at_ c : Int} : ∀ (i : Nat), i < e.length → ∀ K K' : Nat, i < K → 2 * i + 1 ≤ K' → ∀ (neg : Bool) (l : List TNode), l.length + 2 ^ (i + 2) ≤ 100000000000 →
    ∃ l', spec_l8Nnf K e (i : Int) neg l = some l' ∧ impl_reader_nnf K' ⟨s, at_, c, l⟩ e (i : Int) neg = some (⟨s, at_, c, l'⟩, e) ∧ l'.length + 2 ≤ l.length + 2 ^ (i + 2) := by
  intro i
  induction i using Nat.strongRecOn with
  | _ i ih =>
    intro hi K K' hK hK' neg l hl
    obtain ⟨K, rfl⟩ : ∃ k, K = k + 1 := ⟨K - 1, by omega⟩
    obtain ⟨K', rfl⟩ : ∃ k, K' = k + 1 := ⟨K' - 1, by omega⟩
    have hk := ltKinds (he.2.2 i hi)
    show ∃ l', spec_l8Nnf.body (spec_l8Nnf K) e (i : Int) neg l = some l' ∧ impl_reader_nnf.body (impl_reader_nnf K') (impl_reader_second K') ⟨s, at_, c, l⟩ e (i : Int) neg = some (⟨s, at_, c, l'⟩, e) ∧ _
    unfold spec_l8Nnf.body impl_reader_nnf.body
    rw [ix_nat hi]
    simp only [Option.bind_some]
    generalize e.getD i default = n at hk
    have p0 : 1 ≤ 2 ^ i := Nat.one_le_two_pow
    have p2 : 2 ^ (i + 2) = 4 * 2 ^ i := by rw [Nat.pow_add]; omega
    -- one part
    have part : ∀ x : Int, 0 ≤ x → x < i → ∀ (ng : Bool) (m : List TNode), m.length + 2 ^ (i + 1) ≤ 100000000000 → ∀ KK : Nat, 2 * i ≤ KK + 1 → ∃ l', spec_l8Nnf K e x ng m = some l' ∧ impl_reader_nnf KK ⟨s, at_, c, m⟩ e x ng = some (⟨s, at_, c, l'⟩, e) ∧ l'.length + 2 ≤ m.length + 2 ^ (i + 1) := fun x h0 h1 ng m hm KK hKK => by
      have q1 : 2 ^ (x.toNat + 2) ≤ 2 ^ (i + 1) := Nat.pow_le_pow_right (by omega) (by omega)
      obtain ⟨l', r1, r2, r3⟩ := ih x.toNat (by omega) (by omega) K KK (by omega) (by omega) ng m (by omega)
      rw [show ((x.toNat : Nat) : Int) = x by omega] at r1 r2
      exact ⟨l', r1, r2, by omega⟩
    have p1 : 2 ^ (i + 1) = 2 * 2 ^ i := by rw [Nat.pow_succ]; omega
    -- leaves
    have leafs : ∀ k : Int, ∃ l', (app 24 l [TNode.mk k 0 0]) = some l' ∧ (impl_reader_leaf ⟨s, at_, c, l⟩ k 0) = some ⟨s, at_, c, l'⟩ ∧ l'.length + 2 ≤ l.length + 2 ^ (i + 2) := fun k => ⟨_, app24 (by omega), leaf_eq (by omega), by simp; omega⟩
    -- a node of time of one part, as one of two parts
    have timed : ∀ (b k : Int), 0 ≤ n.a → n.a < i → 1 ≤ i → ∃ l', ((app 24 l [TNode.mk b 0 0]).bind fun z => (spec_l8Nnf K e n.a neg z).bind fun a97 => (spec_l8Two a97 k (W ((z.length : Int) - 1))).bind fun a => some a) = some l' ∧ ((impl_reader_leaf ⟨s, at_, c, l⟩ b 0).bind fun a72 => (impl_reader_second K' ⟨a72.s, a72.at_, a72.code, a72.list⟩ k e n.a neg).bind fun a78 => some ((⟨a78.1.s, a78.1.at_, a78.1.code, a78.1.list⟩ : Treader), a78.2)) = some (⟨s, at_, c, l'⟩, e) ∧ l'.length + 2 ≤ l.length + 2 ^ (i + 2) := fun b k h0 h1 hi1 => by
      obtain ⟨K'', rfl⟩ : ∃ k, K' = k + 1 := ⟨K' - 1, by omega⟩
      obtain ⟨l', r1, r2, r3⟩ := part n.a h0 h1 neg (l ++ [TNode.mk b 0 0]) (by simp; omega) K'' (by omega)
      have r3' : l'.length + 2 ≤ l.length + 1 + 2 ^ (i + 1) := by simpa using r3
      rw [app24 (by omega), leaf_eq (by omega)]
      simp only [Option.bind_some]
      rw [r1, second_eq r2 (by omega)]
      simp only [Option.bind_some]
      rw [two8_eq (by omega)]
      exact ⟨_, rfl, rfl, by simp; omega⟩
    -- two parts
    have twos : ∀ k : Int, 0 ≤ n.a → n.a < i → 0 ≤ n.b → n.b < i → 1 ≤ i → ∃ l', (spec_l8Nnf.k0 (spec_l8Nnf K) e n neg l k) = some l' ∧ ((impl_reader_nnf K' ⟨s, at_, c, l⟩ e n.a neg).bind fun a25 => (impl_reader_second K' ⟨a25.1.s, a25.1.at_, a25.1.code, a25.1.list⟩ k a25.2 n.b neg).bind fun a32 => some ((⟨a32.1.s, a32.1.at_, a32.1.code, a32.1.list⟩ : Treader), a32.2)) = some (⟨s, at_, c, l'⟩, e) ∧ l'.length + 2 ≤ l.length + 2 ^ (i + 2) := fun k h0 h1 h2 h3 hi1 => by
      obtain ⟨K'', rfl⟩ : ∃ k, K' = k + 1 := ⟨K' - 1, by omega⟩
      obtain ⟨l1, r1, r2, r3⟩ := part n.a h0 h1 neg l (by omega) (K'' + 1) (by omega)
      obtain ⟨l2, t1, t2, t3⟩ := part n.b h2 h3 neg l1 (by omega) K'' (by omega)
      unfold spec_l8Nnf.k0
      rw [r1, r2]
      simp only [Option.bind_some]
      rw [t1, second_eq t2 (by omega)]
      simp only [Option.bind_some]
      rw [two8_eq (by omega)]
      exact ⟨_, rfl, rfl, by simp; omega⟩
    have b1 : (true == false) = false := rfl
    have b2 : (false == true) = false := rfl
    have b3 : (true == true) = true := rfl
    have b4 : (false == false) = true := rfl
    have w1 : W 1 = 1 := by decide
    have w2 : W 2 = 2 := by decide
    have w5 : W 5 = 5 := by decide
    have w6 : W 6 = 6 := by decide
    have w8 : W 8 = 8 := by decide
    have w9 : W 9 = 9 := by decide
    have kinds : n.kind = 1 ∨ n.kind = 2 ∨ n.kind = 3 ∨ n.kind = 4 ∨ n.kind = 5 ∨ n.kind = 6 ∨ n.kind = 7 ∨ n.kind = 8 ∨ n.kind = 9 ∨ n.kind = 10 ∨ n.kind = 11 := by omega
    have fl : ∀ k : Int, ∃ l', ((app 24 l [TNode.mk k 0 0]).bind fun z32 => some z32) = some l' ∧ ((impl_reader_leaf ⟨s, at_, c, l⟩ k 0).bind fun a38 => some ((⟨a38.s, a38.at_, a38.code, a38.list⟩ : Treader), e)) = some (⟨s, at_, c, l'⟩, e) ∧ l'.length + 2 ≤ l.length + 2 ^ (i + 2) := fun k => by
      obtain ⟨l', r1, r2, r3⟩ := leafs k
      exact ⟨l', by rw [r1]; rfl, by rw [r2]; rfl, r3⟩
    rcases kinds with q | q | q | q | q | q | q | q | q | q | q
    · cases neg <;> simp only [spec_l8Nnf.k1, spec_l8Nnf.k2, impl_reader_nnf.k0, impl_reader_nnf.k1, contrary_eq, q, reduceIte, Int.reduceEq, Int.reduceSub, decide_true, decide_false, Bool.false_eq_true, w1, w2] <;> exact fl _
    · cases neg <;> simp only [spec_l8Nnf.k1, spec_l8Nnf.k2, impl_reader_nnf.k0, impl_reader_nnf.k1, contrary_eq, q, reduceIte, Int.reduceEq, Int.reduceSub, decide_true, decide_false, Bool.false_eq_true, w1, w2] <;> exact fl _
    · have hb : n.b = 0 := by omega
      have hn : n = TNode.mk 3 n.a 0 := by cases n; simp_all
      cases neg <;> simp only [spec_l8Nnf.k1, impl_reader_nnf.k0, impl_reader_nnf.k1, contrary_eq, q, reduceIte, Int.reduceEq, Int.reduceSub, decide_true, decide_false, Bool.false_eq_true]
      · rw [app24 (by omega), leaf_eq (by omega)]
        exact ⟨_, rfl, by rw [← hn]; rfl, by simp; omega⟩
      · rw [app24 (by omega), leaf_eq (by omega)]
        simp only [Option.bind_some]
        rw [app24 (by simp; omega), one_eq (by simp; omega), ← hn]
        exact ⟨_, rfl, rfl, by simp; omega⟩
    · obtain ⟨l', r1, r2, r3⟩ := part n.a (by omega) (by omega) (!neg) l (by omega) K' (by omega)
      cases neg <;> simp only [spec_l8Nnf.k1, impl_reader_nnf.k0, impl_reader_nnf.k1, contrary_eq, q, reduceIte, Int.reduceEq, Int.reduceSub, decide_true, decide_false, Bool.false_eq_true, r1, r2] <;> exact ⟨_, rfl, rfl, by omega⟩
    · cases neg <;> simp only [spec_l8Nnf.k1, spec_l8Nnf.k3, spec_l8Nnf.k5, impl_reader_nnf.k0, impl_reader_nnf.k1, contrary_eq, q, reduceIte, Int.reduceEq, Int.reduceSub, decide_true, decide_false, Bool.false_eq_true, w5, w6] <;> exact twos _ (by omega) (by omega) (by omega) (by omega) (by omega)
    · cases neg <;> simp only [spec_l8Nnf.k1, spec_l8Nnf.k3, spec_l8Nnf.k5, impl_reader_nnf.k0, impl_reader_nnf.k1, contrary_eq, q, reduceIte, Int.reduceEq, Int.reduceSub, decide_true, decide_false, Bool.false_eq_true, w5, w6] <;> exact twos _ (by omega) (by omega) (by omega) (by omega) (by omega)
    · obtain ⟨l', r1, r2, r3⟩ := part n.a (by omega) (by omega) neg l (by omega) K' (by omega)
      cases neg <;> simp only [spec_l8Nnf.k1, impl_reader_nnf.k0, impl_reader_nnf.k1, contrary_eq, q, reduceIte, Int.reduceEq, Int.reduceSub, decide_true, decide_false, Bool.false_eq_true, r1, r2, Option.bind_some] <;> rw [app24 (by omega), one_eq (by omega)] <;> exact ⟨_, rfl, rfl, by simp; omega⟩
    · cases neg <;> simp only [spec_l8Nnf.k1, spec_l8Nnf.k3, spec_l8Nnf.k5, impl_reader_nnf.k0, impl_reader_nnf.k1, contrary_eq, q, reduceIte, Int.reduceEq, Int.reduceSub, decide_true, decide_false, Bool.false_eq_true, w8, w9] <;> exact twos _ (by omega) (by omega) (by omega) (by omega) (by omega)
    · cases neg <;> simp only [spec_l8Nnf.k1, spec_l8Nnf.k3, spec_l8Nnf.k5, impl_reader_nnf.k0, impl_reader_nnf.k1, contrary_eq, q, reduceIte, Int.reduceEq, Int.reduceSub, decide_true, decide_false, Bool.false_eq_true, w8, w9] <;> exact twos _ (by omega) (by omega) (by omega) (by omega) (by omega)
    · cases neg <;> simp only [spec_l8Nnf.k1, spec_l8Nnf.k3, spec_l8Nnf.k4, impl_reader_nnf.k0, impl_reader_nnf.k1, contrary_eq, q, reduceIte, Int.reduceEq, Int.reduceSub, decide_true, decide_false, Bool.false_eq_true, b1, b2, b3, b4, Bool.not_true, Bool.not_false] <;> exact timed _ _ (by omega) (by omega) (by omega)
    · cases neg <;> simp only [spec_l8Nnf.k1, spec_l8Nnf.k3, spec_l8Nnf.k4, impl_reader_nnf.k0, impl_reader_nnf.k1, contrary_eq, q, reduceIte, Int.reduceEq, Int.reduceSub, decide_true, decide_false, Bool.false_eq_true, b1, b2, b3, b4, Bool.not_true, Bool.not_false] <;> exact timed _ _ (by omega) (by omega) (by omega)
theorem ltlNnf_eq (e : List TNode) : ∃ (r : List TNode) (b : Bool), spec_LtlNnf 100 e = some (r, b) ∧ impl_LtlNnf 100 e = some (r, b, e) ∧ r.length ≤ 31 := by
  unfold spec_LtlNnf impl_LtlNnf
  rw [specLtlOk_eq, implLtlOk_eq]
  simp only [Option.bind_some]
  by_cases h : treeOk ltP e = true
  · have hn := treeOk_nodes h
    have h1 := hn.1
    have h2 := hn.2.1
    have hp : 2 ^ (e.length - 1 + 2) ≤ 4294967296 := by
      have : 2 ^ (e.length - 1 + 2) ≤ 2 ^ 32 := Nat.pow_le_pow_right (by omega) (by omega)
      exact Nat.le_trans this (by decide)
    obtain ⟨l', r1, r2, r3⟩ := nnf_eq hn (s := ⟨#[]⟩) (at_ := 0) (c := 0) (e.length - 1) (by omega) 100 100 (by omega) (by omega) false [] (by simp; omega)
    rw [if_neg (by rw [h]; simp), if_neg (by rw [h]; simp), W, W_eq (by omega) (by omega), show ((e.length : Int) - 1) = ((e.length - 1 : Nat) : Int) by omega, r1, r2]
    simp only [Option.bind_some]
    unfold impl_fitting
    by_cases c : (l'.length : Int) > 31
    · rw [if_pos c]; exact ⟨_, _, rfl, rfl, by simp⟩
    · rw [if_neg c]; exact ⟨_, _, rfl, rfl, by omega⟩
  · rw [if_pos (by simpa using h), if_pos (by simpa using h)]
    exact ⟨_, _, rfl, rfl, by simp⟩
theorem pureLtlNnf (e : List TNode) (w : e.length ≤ 9223372036854775807 ∧ ∀ q ∈ e, TNode.wf q) : laws_FnExactLtlNnf 100 e = some true := by
  unfold laws_FnExactLtlNnf
  rw [szNodeS_eq e _ w.1 (by omega)]
  by_cases hl : e.length ≤ 1048576
  · rw [if_neg (by rw [if_pos (by omega)]; omega)]
    obtain ⟨r, b, r1, r2, r3⟩ := ltlNnf_eq e
    simp only [toNodeS_eq e hl, Option.bind_some, r1, r2, eqNodeS_eq e e hl, eqNodeS_eq r r (by omega : r.length ≤ 1048576), mark_eq e (by omega : e.length ≤ 2000000), mark_eq r (by omega : r.length ≤ 2000000), held_eq r (by omega : r.length ≤ 2000000), bnd_eq]
    rw [decide_eq_false (by omega : ¬ ((1 + 3 * e.length : Nat) : Int) < 0)]
    simp only [Bool.not_false, whenO_t, Option.bind_some, decide_true, Bool.not_true, Bool.or_self, beq_self_eq_true]
    rw [if_neg (by simp), if_neg (by simp), if_neg (by simp), if_neg (by omega), if_neg (by simp), if_neg (by simp), if_neg (by omega), if_neg (by simp)]
  · rw [if_pos (by rw [if_neg (by omega)]; omega)]
end Go.Proofs.Ytgklefbkneomoaa
