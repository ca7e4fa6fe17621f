/- The text of a regex is read as that regex; what is read well is a regex. -/
import Derived.Test.YtmmgpcnngaekoaaDOmegaPrint
import Derived.Test.YtmmgpcnngaekoaaDReText
import Derived.Test.YtmmgpcnngaekoaaPRdT
import Derived.Test.YtmmgpcnngaekoaaPRePrintN
namespace Go.Proofs.Ytmmgpcnngaekoaa
open Go Go.RowKit E
set_option linter.unusedVariables false

theorem reKinded : Kinded reP where
  b0 := fun n h => by
    rw [reP_eq] at h
    split at h
    · split at h
      · rename_i k; exact k.1
      · cases h
    · split at h
      · split at h
        · rename_i k; exact k.1
        · cases h
      · split at h
        · cases h
        · split at h <;> cases h
  k1 := fun k a b h c d => by
    rw [reP_eq] at h ⊢
    dsimp only at h ⊢
    (repeat' split at h) <;> first | cases h | skip
    rw [if_neg (by assumption), if_neg (by assumption), if_pos (by assumption)]
  k2 := fun k a b h c d => by
    rw [reP_eq] at h ⊢
    dsimp only at h ⊢
    (repeat' split at h) <;> first | cases h | skip
    rw [if_neg (by assumption), if_neg (by assumption), if_neg (by assumption), if_pos (by assumption)]
theorem re0 {k a : Int} (h : reP (TNode.mk k a 0) = 0) : (k = 1 ∧ a = 0) ∨ (k = 2 ∧ a = 0) ∨ (k = 3 ∧ 0 ≤ a ∧ a ≤ 7) := by
  rw [reP_eq] at h
  dsimp only at h
  (repeat' split at h) <;> first | cases h | skip
  · omega
  · omega
theorem re1 {k : Int} (h : ∀ a b, reP (TNode.mk k a b) = 1) : k = 4 := by
  have h := h 0 0
  rw [reP_eq] at h
  dsimp only at h
  (repeat' split at h) <;> first | exact absurd h (by decide) | assumption
theorem re2 {k : Int} (h : ∀ a b, reP (TNode.mk k a b) = 2) : k = 5 ∨ k = 6 := by
  have h := h 0 0
  rw [reP_eq] at h
  dsimp only at h
  (repeat' split at h) <;> first | exact absurd h (by decide) | assumption
theorem re1' : ∀ a b, reP (TNode.mk 4 a b) = 1 := fun a b => by rw [reP_eq]; rfl
theorem re5' : ∀ a b, reP (TNode.mk 5 a b) = 2 := fun a b => by rw [reP_eq]; rfl
theorem re6' : ∀ a b, reP (TNode.mk 6 a b) = 2 := fun a b => by rw [reP_eq]; rfl
theorem re0' {k a : Int} (h : (k = 1 ∧ a = 0) ∨ (k = 2 ∧ a = 0) ∨ (k = 3 ∧ 0 ≤ a ∧ a ≤ 7)) : reP (TNode.mk k a 0) = 0 := by
  rw [reP_eq]
  dsimp only
  rcases h with ⟨rfl, rfl⟩ | ⟨rfl, rfl⟩ | ⟨rfl, h⟩
  · rfl
  · rfl
  · rw [if_neg (by decide), if_pos rfl, if_pos ⟨rfl, h⟩]
/-- The text of a tree. -/
noncomputable def reTxt : GT → ByteArray
  | .leaf k a => if k = 1 then ⟨#[64]⟩ else if k = 2 then ⟨#[95]⟩ else spec_l2Digit a
  | .one _ t => reTxt t ++ ⟨#[42]⟩
  | .two k l r => if k = 5 then (((⟨#[40]⟩ ++ reTxt l) ++ ⟨#[46]⟩) ++ reTxt r) ++ ⟨#[41]⟩ else (((⟨#[40]⟩ ++ reTxt l) ++ ⟨#[124]⟩) ++ reTxt r) ++ ⟨#[41]⟩
theorem reTxt_leaf (k a : Int) (ts : List ByteArray) (h : reP (TNode.mk k a 0) = 0) : reText (TNode.mk k a 0) ts = reTxt (.leaf k a) := by
  unfold reText reTxt
  dsimp only
  rcases re0 h with ⟨rfl, rfl⟩ | ⟨rfl, rfl⟩ | ⟨rfl, h3⟩
  · rfl
  · rfl
  · rfl
theorem reTxt_one (k : Int) (t : GT) (ts : List ByteArray) (n : Nat) (h : ∀ a b, reP (TNode.mk k a b) = 1) (h1 : ts.getD n default = reTxt t) : reText (TNode.mk k (n : Int) 0) ts = reTxt (.one k t) := by
  obtain rfl := re1 h
  unfold reText
  rw [if_neg (by dsimp only; decide), if_neg (by dsimp only; decide), if_neg (by dsimp only; decide), if_pos rfl]
  dsimp only
  rw [Int.toNat_natCast, h1]; rfl
theorem reTxt_two (k : Int) (l r : GT) (ts : List ByteArray) (n m : Nat) (h : ∀ a b, reP (TNode.mk k a b) = 2) (h1 : ts.getD n default = reTxt l) (h2 : ts.getD m default = reTxt r) : reText (TNode.mk k (n : Int) (m : Int)) ts = reTxt (.two k l r) := by
  unfold reText
  dsimp only
  rw [Int.toNat_natCast, Int.toNat_natCast, h1, h2]
  rcases re2 h with rfl | rfl
  · rfl
  · rfl
theorem reTexts_tree {t : GT} (h : t.wf reP) : (reTexts (t.nodes 0)).getD (t.size - 1) default = reTxt t := by
  obtain ⟨us, e1, e2, e3⟩ := GT.accum_eq reText reTxt default reP reTxt_leaf reTxt_one reTxt_two t [] h
  simp only [List.length_nil, List.nil_append] at e1
  unfold reTexts
  rw [e1, e3]
theorem rePrint_tree {t : GT} (h : t.wf reP) (hs : t.size ≤ 31) : rePrint (t.nodes 0) = reTxt t := by
  unfold rePrint
  rw [if_pos (GT.treeOk h hs), t.len, reTexts_tree h]
theorem reTxt_size : ∀ t : GT, (reTxt t).size ≤ 4 * t.size
  | .leaf k a => by
    simp only [reTxt, GT.z1, GT.z2, GT.size]
    split
    · decide
    · split
      · decide
      · rw [digit_size]; decide
  | .one _ t => by
    have := reTxt_size t
    simp only [reTxt, GT.z1, GT.z2, GT.size]
    rw [size_app]; show _ + 1 ≤ _; omega
  | .two k l r => by
    have h1 := reTxt_size l
    have h2 := reTxt_size r
    simp only [reTxt, GT.z1, GT.z2, GT.size]
    split <;> (simp only [size_app]; show 1 + _ + 1 + _ + 1 ≤ _; omega)
theorem digit_bys {a : Int} (h : 0 ≤ a ∧ a ≤ 7) : bys (spec_l2Digit a) = [48 + a] := by
  have : a = 0 ∨ a = 1 ∨ a = 2 ∨ a = 3 ∨ a = 4 ∨ a = 5 ∨ a = 6 ∨ a = 7 := by omega
  rcases this with rfl | rfl | rfl | rfl | rfl | rfl | rfl | rfl <;> rfl
theorem k0_stop {s : ByteArray} {j : Nat} {l : List TNode} (h : j < s.size → bt s j ≠ 42) : impl_reAtom.k0 s (j : Int) 0 l = some ⟨s, (j : Int), 0, l⟩ := by
  unfold impl_reAtom.k0
  rw [loop_end (r := (⟨s, (j : Int), 0, l⟩ : Treader))]
  · rfl
  · dsimp only; unfold impl_reAtom.b0
    by_cases hj : j < s.size
    · rw [skip_no hj (h hj), Option.bind_some, if_neg (by simp)]
    · rw [skip_end (by omega), Option.bind_some, if_neg (by simp)]
theorem k0_star {s : ByteArray} (hs : s.size ≤ 200) {j : Nat} {l : List TNode} (hl : l.length ≤ 1000000000000) (hj : j < s.size) (h : bt s j = 42) : impl_reAtom.k0 s (j : Int) 0 l = impl_reAtom.k0 s ((j + 1 : Nat) : Int) 0 (l ++ [TNode.mk 4 (W ((l.length : Int) - 1)) 0]) := by
  unfold impl_reAtom.k0
  rw [loop_go (s' := (s, ((j + 1 : Nat) : Int), (0 : Int), l ++ [TNode.mk 4 (W ((l.length : Int) - 1)) 0]))]
  dsimp only; unfold impl_reAtom.b0
  rw [skip_yes hj (by omega) h, Option.bind_some, if_pos rfl]
  dsimp only
  rw [one_eq hl, Option.bind_some]
theorem atom_leaf {s : ByteArray} (hs : s.size ≤ 200) {j K : Nat} {l : List TNode} (hl : l.length ≤ 1000000000000) (hj : j < s.size) {k a : Int} (h : (k = 1 ∧ a = 0 ∧ bt s j = 64) ∨ (k = 2 ∧ a = 0 ∧ bt s j = 95) ∨ (k = 3 ∧ 0 ≤ a ∧ a ≤ 7 ∧ bt s j = 48 + a)) : impl_reAtom (K + 1) ⟨s, (j : Int), 0, l⟩ = impl_reAtom.k0 s ((j + 1 : Nat) : Int) 0 (l ++ [TNode.mk k a 0]) := by
  show impl_reAtom.body (impl_reSum K) (impl_reProduct K) (impl_reAtom K) ⟨s, (j : Int), 0, l⟩ = _
  unfold impl_reAtom.body
  dsimp only
  rw [peek_ok hj, Option.bind_some, skip_no hj (by omega), Option.bind_some, if_neg (by simp)]
  dsimp only
  rcases h with ⟨rfl, rfl, h⟩ | ⟨rfl, rfl, h⟩ | ⟨rfl, h0, h7, h⟩
  · rw [skip_yes hj (by omega) h, Option.bind_some, if_pos rfl]
    dsimp only
    rw [leaf_eq hl, Option.bind_some]
  · rw [skip_no hj (by omega), Option.bind_some, if_neg (by simp)]
    dsimp only
    rw [skip_yes hj (by omega) h, Option.bind_some, if_pos rfl]
    dsimp only
    rw [leaf_eq hl, Option.bind_some]
  · rw [skip_no hj (by omega), Option.bind_some, if_neg (by simp)]
    dsimp only
    rw [skip_no hj (by omega), Option.bind_some, if_neg (by simp), bnd_eq, if_pos (by simp; omega)]
    dsimp only
    have e : IntKind.i64.wrap (IntKind.u8.wrap (bt s j - 48)) = a := by
      rw [digit_eq (by omega), byte_i64 (by omega), h, W, W_eq (by omega) (by omega)]; omega
    rw [WS (by omega), e, leaf_eq hl, Option.bind_some]
theorem prod_one {s : ByteArray} {j j1 K : Nat} {l l1 : List TNode} (h : impl_reAtom K ⟨s, (j : Int), 0, l⟩ = some ⟨s, (j1 : Int), 0, l1⟩) (hn : j1 < s.size → bt s j1 ≠ 46) : impl_reProduct (K + 1) ⟨s, (j : Int), 0, l⟩ = some ⟨s, (j1 : Int), 0, l1⟩ := by
  show impl_reProduct.body (impl_reSum K) (impl_reProduct K) (impl_reAtom K) _ = _
  unfold impl_reProduct.body
  dsimp only
  rw [row_one h hn, Option.bind_some]
theorem sum_one {s : ByteArray} {j j1 K : Nat} {l l1 : List TNode} (h : impl_reProduct K ⟨s, (j : Int), 0, l⟩ = some ⟨s, (j1 : Int), 0, l1⟩) (hn : j1 < s.size → bt s j1 ≠ 124) : impl_reSum (K + 1) ⟨s, (j : Int), 0, l⟩ = some ⟨s, (j1 : Int), 0, l1⟩ := by
  show impl_reSum.body (impl_reSum K) (impl_reProduct K) (impl_reAtom K) _ = _
  unfold impl_reSum.body
  dsimp only
  rw [row_one h hn, Option.bind_some]
theorem prod_row {K : Nat} {t r : Treader} (h : impl_reader_row t 46 5 (impl_reAtom K) = some r) : impl_reProduct (K + 1) t = some r := by
  show impl_reProduct.body (impl_reSum K) (impl_reProduct K) (impl_reAtom K) _ = _
  unfold impl_reProduct.body
  have h' : impl_reader_row (Treader.mk t.s t.at_ t.code t.list) 46 5 (impl_reAtom K) = some r := h
  rw [h', Option.bind_some]
theorem sum_row {K : Nat} {t r : Treader} (h : impl_reader_row t 124 6 (impl_reProduct K) = some r) : impl_reSum (K + 1) t = some r := by
  show impl_reSum.body (impl_reSum K) (impl_reProduct K) (impl_reAtom K) _ = _
  unfold impl_reSum.body
  have h' : impl_reader_row (Treader.mk t.s t.at_ t.code t.list) 124 6 (impl_reProduct K) = some r := h
  rw [h', Option.bind_some]
theorem atom_bracket {s : ByteArray} (hs : s.size ≤ 200) {j j1 K : Nat} {l l1 : List TNode} (hj : j < s.size) (h40 : bt s j = 40) (h : impl_reSum K ⟨s, ((j + 1 : Nat) : Int), 0, l⟩ = some ⟨s, (j1 : Int), 0, l1⟩) (hj1 : j1 < s.size) (h41 : bt s j1 = 41) : impl_reAtom (K + 1) ⟨s, (j : Int), 0, l⟩ = impl_reAtom.k0 s ((j1 + 1 : Nat) : Int) 0 l1 := by
  show impl_reAtom.body (impl_reSum K) (impl_reProduct K) (impl_reAtom K) ⟨s, (j : Int), 0, l⟩ = _
  unfold impl_reAtom.body
  dsimp only
  rw [peek_ok hj, Option.bind_some, skip_yes hj (by omega) h40, Option.bind_some, if_pos rfl]
  dsimp only
  rw [bracket_yes (by omega) h hj1 h41, Option.bind_some]
theorem Wn {n : Nat} (h : n ≤ 1000000) (h1 : 1 ≤ n) : W ((n : Int) - 1) = ((n - 1 : Nat) : Int) := by
  rw [W, W_eq (by omega) (by omega)]; omega
theorem reAtom_reads {s : ByteArray} (hs : s.size ≤ 200) : ∀ (t : GT) (j K : Nat) (l : List TNode), t.wf reP → At s j (bys (reTxt t)) → l.length + t.size ≤ 100000 → 3 * t.size ≤ K → impl_reAtom K ⟨s, (j : Int), 0, l⟩ = impl_reAtom.k0 s ((j + (reTxt t).size : Nat) : Int) 0 (l ++ t.nodes l.length)
  | .leaf k a, j, K, l, h, hA, hl, hK => by
    obtain ⟨K, rfl⟩ : ∃ k, K = k + 1 := ⟨K - 1, by simp [GT.z1, GT.z2, GT.size] at hK; omega⟩
    rcases re0 h with ⟨rfl, rfl⟩ | ⟨rfl, rfl⟩ | ⟨rfl, h3⟩
    · have hA' : At s j [64] := hA
      exact atom_leaf hs (by omega) hA'.head.1 (.inl ⟨rfl, rfl, hA'.head.2⟩)
    · have hA' : At s j [95] := hA
      exact atom_leaf hs (by omega) hA'.head.1 (.inr (.inl ⟨rfl, rfl, hA'.head.2⟩))
    · have e : reTxt (.leaf 3 a) = spec_l2Digit a := rfl
      rw [e, digit_bys h3] at hA
      have hz : (reTxt (.leaf 3 a)).size = 1 := by rw [e, digit_size]
      rw [hz]
      exact atom_leaf hs (by omega) hA.head.1 (.inr (.inr ⟨rfl, h3.1, h3.2, hA.head.2⟩))
  | .one k t, j, K, l, h, hA, hl, hK => by
    obtain rfl := re1 h.2
    have hp := t.pos
    have e : reTxt (.one 4 t) = reTxt t ++ ⟨#[42]⟩ := rfl
    rw [e, bys_app] at hA
    have h1 := reAtom_reads hs t j K l h.1 hA.left (by simp [GT.z1, GT.z2, GT.size] at hl; omega) (by simp [GT.z1, GT.z2, GT.size] at hK; omega)
    have hR := hA.right
    rw [bys_len] at hR
    have hR : At s (j + (reTxt t).size) [42] := hR
    have hll : (l ++ t.nodes l.length).length = l.length + t.size := by rw [List.length_append, t.len]
    have hsz : t.size + 1 + l.length ≤ 100000 := by simp [GT.z1, GT.z2, GT.size] at hl; omega
    rw [h1, k0_star hs (by omega) hR.head.1 hR.head.2, hll, Wn (by omega) (by omega), e, size_app]
    simp only [GT.n0, GT.n1, GT.n2]
    rw [List.append_assoc]; rfl
  | .two k a b, j, K, l, h, hA, hl, hK => by
    obtain ⟨K, rfl⟩ : ∃ k, K = k + 1 + 1 + 1 := ⟨K - 3, by simp [GT.z1, GT.z2, GT.size] at hK; omega⟩
    have hp := a.pos
    have hq := b.pos
    have hsz : l.length + a.size + b.size + 1 ≤ 100000 := by simp [GT.z1, GT.z2, GT.size] at hl; omega
    have hK' : 3 * a.size + 3 * b.size ≤ K := by simp [GT.z1, GT.z2, GT.size] at hK; omega
    have hla : (l ++ a.nodes l.length).length = l.length + a.size := by rw [List.length_append, a.len]
    have hlb : (l ++ a.nodes l.length ++ b.nodes (l.length + a.size)).length = l.length + a.size + b.size := by rw [List.length_append, hla, b.len]
    have fin : ∀ c : UInt8, At s j (bys ((((⟨#[40]⟩ ++ reTxt a) ++ ⟨#[c]⟩) ++ reTxt b) ++ ⟨#[41]⟩)) → At s j [40] ∧ At s (j + 1) (bys (reTxt a)) ∧ At s (j + 1 + (reTxt a).size) [(c.toNat : Int)] ∧ At s (j + 1 + (reTxt a).size + 1) (bys (reTxt b)) ∧ At s (j + 1 + (reTxt a).size + 1 + (reTxt b).size) [41] := by
      intro c hA
      simp only [bys_app, List.append_assoc] at hA
      have g1 := hA.left
      have g2 := hA.right
      have e40 : (bys ⟨#[40]⟩).length = 1 := rfl
      rw [e40] at g2
      have g3 := g2.right
      rw [bys_len] at g3
      have g4 := g3.right
      have ec : (bys ⟨#[c]⟩).length = 1 := rfl
      rw [ec] at g4
      have g5 := g4.right
      rw [bys_len] at g5
      exact ⟨g1, g2.left, g3.left, g4.left, g5⟩
    have sz : ∀ c : UInt8, ((((⟨#[40]⟩ ++ reTxt a) ++ (⟨#[c]⟩ : ByteArray)) ++ reTxt b) ++ (⟨#[41]⟩ : ByteArray)).size = 1 + (reTxt a).size + 1 + (reTxt b).size + 1 := fun c => by simp only [size_app]; rfl
    rcases re2 h.2.2 with rfl | rfl
    · have e : reTxt (.two 5 a b) = (((⟨#[40]⟩ ++ reTxt a) ++ ⟨#[46]⟩) ++ reTxt b) ++ ⟨#[41]⟩ := rfl
      rw [e] at hA
      obtain ⟨g1, g2, g3, g4, g5⟩ := fin 46 hA
      have c46 : bt s (j + 1 + (reTxt a).size) = 46 := g3.head.2
      have c41 := g5.head.2
      have h1 := reAtom_reads hs a (j + 1) K l h.1 g2 (by omega) (by omega)
      rw [k0_stop (fun _ => by rw [c46]; decide)] at h1
      have h2 := reAtom_reads hs b (j + 1 + (reTxt a).size + 1) K (l ++ a.nodes l.length) h.2.1 g4 (by omega) (by omega)
      rw [k0_stop (fun _ => by rw [c41]; decide), hla] at h2
      have h3 := row_two (kind := 5) (op := 46) (by omega) (by omega) h1 g3.head.1 c46 h2 (fun _ => by rw [c41]; decide)
      have h4 := prod_row h3
      have h5 := sum_one h4 (fun _ => by rw [c41]; decide)
      rw [atom_bracket hs g1.head.1 g1.head.2 h5 g5.head.1 c41, e, sz, hla, hlb, Wn (by omega) (by omega), Wn (by omega) (by omega), show j + 1 + (reTxt a).size + 1 + (reTxt b).size + 1 = j + (1 + (reTxt a).size + 1 + (reTxt b).size + 1) by omega]
      simp only [GT.n0, GT.n1, GT.n2]
      simp only [List.append_assoc]
    · have e : reTxt (.two 6 a b) = (((⟨#[40]⟩ ++ reTxt a) ++ ⟨#[124]⟩) ++ reTxt b) ++ ⟨#[41]⟩ := rfl
      rw [e] at hA
      obtain ⟨g1, g2, g3, g4, g5⟩ := fin 124 hA
      have c46 : bt s (j + 1 + (reTxt a).size) = 124 := g3.head.2
      have c41 := g5.head.2
      have h1 := reAtom_reads hs a (j + 1) K l h.1 g2 (by omega) (by omega)
      rw [k0_stop (fun _ => by rw [c46]; decide)] at h1
      have h2 := reAtom_reads hs b (j + 1 + (reTxt a).size + 1) K (l ++ a.nodes l.length) h.2.1 g4 (by omega) (by omega)
      rw [k0_stop (fun _ => by rw [c41]; decide), hla] at h2
      have p1 := prod_one h1 (fun _ => by rw [c46]; decide)
      have p2 := prod_one h2 (fun _ => by rw [c41]; decide)
      have h3 := row_two (kind := 6) (op := 124) (by omega) (by omega) p1 g3.head.1 c46 p2 (fun _ => by rw [c41]; decide)
      have h5 := sum_row h3
      rw [atom_bracket hs g1.head.1 g1.head.2 h5 g5.head.1 c41, e, sz, hla, hlb, Wn (by omega) (by omega), Wn (by omega) (by omega), show j + 1 + (reTxt a).size + 1 + (reTxt b).size + 1 = j + (1 + (reTxt a).size + 1 + (reTxt b).size + 1) by omega]
      simp only [GT.n0, GT.n1, GT.n2]
      simp only [List.append_assoc]
theorem reParse_tree {t : GT} (h : t.wf reP) (hs : t.size ≤ 31) : impl_ReParse 900 (reTxt t) = some (t.nodes 0, ((reTxt t).size : Int), 0) := by
  have hz := reTxt_size t
  have h1 := reAtom_reads (s := reTxt t) (by omega) t 0 898 [] h (At.all _) (by simp; omega) (by omega)
  rw [k0_stop (fun x => by omega)] at h1
  have h2 := sum_one (prod_one h1 (fun x => by omega)) (fun x => by omega)
  unfold impl_ReParse
  simp only [List.nil_append, List.length_nil, Nat.zero_add] at h2
  rw [parsed_well (by omega) h2 (by rw [t.len]; omega), Option.bind_some]
theorem k0_treed {s : ByteArray} {j c : Int} {l l1 : List TNode} {r : Treader} (h : Treed reP l ⟨s, j, c, l1⟩) (hr : impl_reAtom.k0 s j c l1 = some r) : Treed reP l r := by
  unfold impl_reAtom.k0 at hr
  obtain ⟨q, h3, h4⟩ := bindE hr
  obtain rfl := someE h4
  refine loop_some (I := fun q : ByteArray × Int × Int × List TNode => Treed reP l ⟨q.1, q.2.1, q.2.2.1, q.2.2.2⟩) (R := fun r => Treed reP l r) ?_ ?_ (s := (s, j, c, l1)) h h3
  · rintro ⟨s1, j1, c1, l1⟩ st' hI hb
    dsimp only at hI hb
    unfold impl_reAtom.b0 at hb
    obtain ⟨b, b1, b2⟩ := bindE hb
    rcases skip_inv b1 with ⟨e1, e2, j', e3⟩ | ⟨e1, e2⟩
    · rw [if_pos e1, e3] at b2
      obtain ⟨t1, c1', c2⟩ := bindE b2
      obtain rfl := Sum.inl.inj (someE c2)
      subst e2
      have := Treed.one (r := t1) (k := 4) (t := ⟨s1, j', 0, l1⟩) hI re1' c1'
      exact this
    · rw [if_neg (by rw [e1]; simp)] at b2
      cases someE b2
  · rintro ⟨s1, j1, c1, l1⟩ r hI hb
    dsimp only at hI hb
    unfold impl_reAtom.b0 at hb
    obtain ⟨b, b1, b2⟩ := bindE hb
    rcases skip_inv b1 with ⟨e1, e2, j', e3⟩ | ⟨e1, e2⟩
    · rw [if_pos e1, e3] at b2
      obtain ⟨t1, c1', c2⟩ := bindE b2
      cases someE c2
    · rw [if_neg (by rw [e1]; simp), e2] at b2
      obtain rfl := Sum.inr.inj (someE b2)
      exact hI
theorem re_treed : ∀ K, TreedF reP (impl_reSum K) ∧ TreedF reP (impl_reProduct K) ∧ TreedF reP (impl_reAtom K)
  | 0 => ⟨fun s j l r h => (nomatch (show (none : Option Treader) = some r from h)), fun s j l r h => (nomatch (show (none : Option Treader) = some r from h)), fun s j l r h => (nomatch (show (none : Option Treader) = some r from h))⟩
  | K + 1 => by
    obtain ⟨i1, i2, i3⟩ := re_treed K
    refine ⟨fun s j l r h => ?_, fun s j l r h => ?_, fun s j l r h => ?_⟩
    · have h : impl_reSum.body (impl_reSum K) (impl_reProduct K) (impl_reAtom K) ⟨s, j, 0, l⟩ = some r := h
      unfold impl_reSum.body at h
      obtain ⟨a, h1, h2⟩ := bindE h
      obtain rfl := someE h2
      exact row_treed i2 re6' s j l a h1
    · have h : impl_reProduct.body (impl_reSum K) (impl_reProduct K) (impl_reAtom K) ⟨s, j, 0, l⟩ = some r := h
      unfold impl_reProduct.body at h
      obtain ⟨a, h1, h2⟩ := bindE h
      obtain rfl := someE h2
      exact row_treed i3 re5' s j l a h1
    · have h : impl_reAtom.body (impl_reSum K) (impl_reProduct K) (impl_reAtom K) ⟨s, j, 0, l⟩ = some r := h
      unfold impl_reAtom.body at h
      obtain ⟨b, h1, h2⟩ := bindE h
      obtain ⟨a1, h3, h4⟩ := bindE h2
      rcases skip_inv h3 with ⟨e1, e2, j', e3⟩ | ⟨e1, e2⟩
      · rw [if_pos e1, e3] at h4
        obtain ⟨a2, h5, h6⟩ := bindE h4
        exact k0_treed (bracket_treed i1 s j' l a2 h5) h6
      rw [if_neg (by rw [e1]; simp), e2] at h4
      obtain ⟨a2, h5, h6⟩ := bindE h4
      rcases skip_inv h5 with ⟨e1, _, j', e3⟩ | ⟨e1, e2⟩
      · rw [if_pos e1, e3] at h6
        obtain ⟨a3, h7, h8⟩ := bindE h6
        exact k0_treed (Treed.leaf (re0' (.inl ⟨rfl, rfl⟩)) h7) h8
      rw [if_neg (by rw [e1]; simp), e2] at h6
      obtain ⟨a3, h7, h8⟩ := bindE h6
      rcases skip_inv h7 with ⟨e1, _, j', e3⟩ | ⟨e1, e2⟩
      · rw [if_pos e1, e3] at h8
        obtain ⟨a4, h9, h10⟩ := bindE h8
        exact k0_treed (Treed.leaf (re0' (.inr (.inl ⟨rfl, rfl⟩))) h9) h10
      rw [if_neg (by rw [e1]; simp), e2, bnd_eq] at h8
      split at h8
      · rename_i k
        simp only [Bool.and_eq_true, decide_eq_true_eq] at k
        obtain ⟨a4, h9, h10⟩ := bindE h8
        refine k0_treed (Treed.leaf (re0' (.inr (.inr ⟨rfl, ?_⟩))) h9) h10
        rw [digit_eq (by omega), byte_i64 (by omega), W, W_eq (by omega) (by omega)]
        omega
      · obtain ⟨a4, h9, h10⟩ := bindE h8
        exact k0_treed (Treed.fail h9) h10
theorem reParse_well {s : ByteArray} {r : List TNode × Int × Int} (h : impl_ReParse 900 s = some r) (hc : r.2.2 = 0) : ∃ t : GT, t.wf reP ∧ t.size ≤ 31 ∧ r.1 = t.nodes 0 := by
  unfold impl_ReParse at h
  obtain ⟨a, h1, h2⟩ := bindE h
  obtain rfl := someE h2
  exact parsed_treed (re_treed 900).1 h1 hc
end Go.Proofs.Ytmmgpcnngaekoaa
