/- The text of an expression is read as that expression; what is read well is an expression. -/
import Derived.Test.YtmmgpcnngaekoaaDExprText
import Derived.Test.YtmmgpcnngaekoaaPRdT
import Derived.Test.YtmmgpcnngaekoaaPExprPrintN
namespace Go.Proofs.Ytmmgpcnngaekoaa
open Go Go.RowKit E
set_option linter.unusedVariables false

/-- The text of a tree. -/
noncomputable def exTxt : GT → ByteArray
  | .leaf k a => if k = 1 then ⟨#[116]⟩ else if k = 2 then ⟨#[102]⟩ else impl_digit a
  | .one _ t => ⟨#[33]⟩ ++ exTxt t
  | .two k l r => if k = 5 then (((⟨#[40]⟩ ++ exTxt l) ++ ⟨#[38]⟩) ++ exTxt r) ++ ⟨#[41]⟩ else (((⟨#[40]⟩ ++ exTxt l) ++ ⟨#[124]⟩) ++ exTxt r) ++ ⟨#[41]⟩
theorem exTxt_leaf (k a : Int) (ts : List ByteArray) (h : exP (TNode.mk k a 0) = 0) : exText (TNode.mk k a 0) ts = exTxt (.leaf k a) := by
  unfold exText exTxt
  dsimp only
  rcases ex0 h with ⟨rfl, rfl⟩ | ⟨rfl, rfl⟩ | ⟨rfl, h3⟩
  · rfl
  · rfl
  · rfl
theorem exTxt_one (k : Int) (t : GT) (ts : List ByteArray) (n : Nat) (h : ∀ a b, exP (TNode.mk k a b) = 1) (h1 : ts.getD n default = exTxt t) : exText (TNode.mk k (n : Int) 0) ts = exTxt (.one k t) := by
  obtain rfl := ex1 h
  unfold exText
  rw [if_neg (by dsimp only; decide), if_neg (by dsimp only; decide), if_neg (by dsimp only; decide), if_pos rfl]
  dsimp only
  rw [Int.toNat_natCast, h1]; rfl
theorem exTxt_two (k : Int) (l r : GT) (ts : List ByteArray) (n m : Nat) (h : ∀ a b, exP (TNode.mk k a b) = 2) (h1 : ts.getD n default = exTxt l) (h2 : ts.getD m default = exTxt r) : exText (TNode.mk k (n : Int) (m : Int)) ts = exTxt (.two k l r) := by
  unfold exText
  dsimp only
  rw [Int.toNat_natCast, Int.toNat_natCast, h1, h2]
  rcases ex2 h with rfl | rfl
  · rfl
  · rfl
theorem exTexts_tree {t : GT} (h : t.wf exP) : (exTexts (t.nodes 0)).getD (t.size - 1) default = exTxt t := by
  obtain ⟨us, e1, e2, e3⟩ := GT.accum_eq exText exTxt default exP exTxt_leaf exTxt_one exTxt_two t [] h
  simp only [List.length_nil, List.nil_append] at e1
  unfold exTexts
  rw [e1, e3]
theorem exPrint_tree {t : GT} (h : t.wf exP) (hs : t.size ≤ 31) : exPrint (t.nodes 0) = exTxt t := by
  unfold exPrint
  rw [if_pos (GT.treeOk h hs), t.len, exTexts_tree h]
theorem exTxt_size : ∀ t : GT, (exTxt t).size ≤ 4 * t.size
  | .leaf k a => by
    simp only [exTxt, GT.z1, GT.z2, GT.size]
    split
    · decide
    · split
      · decide
      · rw [exdigit_size]; decide
  | .one _ t => by
    have := exTxt_size t
    simp only [exTxt, GT.z1, GT.z2, GT.size]
    rw [size_app]; show 1 + _ ≤ _; omega
  | .two k l r => by
    have h1 := exTxt_size l
    have h2 := exTxt_size r
    simp only [exTxt, GT.z1, GT.z2, GT.size]
    split <;> (simp only [size_app]; show 1 + _ + 1 + _ + 1 ≤ _; omega)
theorem digit_bys {a : Int} (h : 0 ≤ a ∧ a ≤ 2) : bys (impl_digit a) = [48 + a] := by
  have : a = 0 ∨ a = 1 ∨ a = 2 := by omega
  rcases this with rfl | rfl | rfl <;> rfl
theorem atom_leaf {s : ByteArray} (hs : s.size ≤ 200) {j K : Nat} {l : List TNode} (hl : l.length ≤ 1000000000000) (hj : j < s.size) {k a : Int} (h : (k = 1 ∧ a = 0 ∧ bt s j = 116) ∨ (k = 2 ∧ a = 0 ∧ bt s j = 102) ∨ (k = 3 ∧ 0 ≤ a ∧ a ≤ 2 ∧ bt s j = 48 + a)) : impl_exprAtom (K + 1) ⟨s, (j : Int), 0, l⟩ = some ⟨s, ((j + 1 : Nat) : Int), 0, l ++ [TNode.mk k a 0]⟩ := by
  show impl_exprAtom.body (impl_exprSum K) (impl_exprProduct K) (impl_exprAtom K) ⟨s, (j : Int), 0, l⟩ = _
  unfold impl_exprAtom.body impl_plainAtom
  dsimp only
  rw [skip_no hj (by omega), Option.bind_some, if_neg (by simp)]
  dsimp only
  rw [peek_ok hj, Option.bind_some, skip_no hj (by omega), Option.bind_some, if_neg (by simp)]
  dsimp only
  rcases h with ⟨rfl, rfl, h⟩ | ⟨rfl, rfl, h⟩ | ⟨rfl, h0, h7, h⟩
  · rw [skip_yes hj (by omega) h, Option.bind_some, if_pos rfl]
    dsimp only
    rw [leaf_eq hl, Option.bind_some]; rfl
  · rw [skip_no hj (by omega), Option.bind_some, if_neg (by simp)]
    dsimp only
    rw [skip_yes hj (by omega) h, Option.bind_some, if_pos rfl]
    dsimp only
    rw [leaf_eq hl, Option.bind_some]; rfl
  · rw [skip_no hj (by omega), Option.bind_some, if_neg (by simp)]
    dsimp only
    rw [skip_no hj (by omega), Option.bind_some, if_neg (by simp), bnd_eq, if_pos (by simp; omega)]
    dsimp only
    have e : IntKind.i64.wrap (IntKind.u8.wrap (bt s j - 48)) = a := by
      rw [digit_eq (by omega), byte_i64 (by omega), h, W, W_eq (by omega) (by omega)]; omega
    rw [WS (by omega), e, leaf_eq hl, Option.bind_some]; rfl
theorem prod_one {s : ByteArray} {j j1 K : Nat} {l l1 : List TNode} (h : impl_exprAtom K ⟨s, (j : Int), 0, l⟩ = some ⟨s, (j1 : Int), 0, l1⟩) (hn : j1 < s.size → bt s j1 ≠ 38) : impl_exprProduct (K + 1) ⟨s, (j : Int), 0, l⟩ = some ⟨s, (j1 : Int), 0, l1⟩ := by
  show impl_exprProduct.body (impl_exprSum K) (impl_exprProduct K) (impl_exprAtom K) _ = _
  unfold impl_exprProduct.body
  dsimp only
  rw [row_one h hn, Option.bind_some]
theorem sum_one {s : ByteArray} {j j1 K : Nat} {l l1 : List TNode} (h : impl_exprProduct K ⟨s, (j : Int), 0, l⟩ = some ⟨s, (j1 : Int), 0, l1⟩) (hn : j1 < s.size → bt s j1 ≠ 124) : impl_exprSum (K + 1) ⟨s, (j : Int), 0, l⟩ = some ⟨s, (j1 : Int), 0, l1⟩ := by
  show impl_exprSum.body (impl_exprSum K) (impl_exprProduct K) (impl_exprAtom K) _ = _
  unfold impl_exprSum.body
  dsimp only
  rw [row_one h hn, Option.bind_some]
theorem prod_row {K : Nat} {t r : Treader} (h : impl_reader_row t 38 5 (impl_exprAtom K) = some r) : impl_exprProduct (K + 1) t = some r := by
  show impl_exprProduct.body (impl_exprSum K) (impl_exprProduct K) (impl_exprAtom K) _ = _
  unfold impl_exprProduct.body
  have h' : impl_reader_row (Treader.mk t.s t.at_ t.code t.list) 38 5 (impl_exprAtom K) = some r := h
  rw [h', Option.bind_some]
theorem sum_row {K : Nat} {t r : Treader} (h : impl_reader_row t 124 6 (impl_exprProduct K) = some r) : impl_exprSum (K + 1) t = some r := by
  show impl_exprSum.body (impl_exprSum K) (impl_exprProduct K) (impl_exprAtom K) _ = _
  unfold impl_exprSum.body
  have h' : impl_reader_row (Treader.mk t.s t.at_ t.code t.list) 124 6 (impl_exprProduct K) = some r := h
  rw [h', Option.bind_some]
theorem atom_bracket {s : ByteArray} (hs : s.size ≤ 200) {j j1 K : Nat} {l l1 : List TNode} (hj : j < s.size) (h40 : bt s j = 40) (h : impl_exprSum K ⟨s, ((j + 1 : Nat) : Int), 0, l⟩ = some ⟨s, (j1 : Int), 0, l1⟩) (hj1 : j1 < s.size) (h41 : bt s j1 = 41) : impl_exprAtom (K + 1) ⟨s, (j : Int), 0, l⟩ = some ⟨s, ((j1 + 1 : Nat) : Int), 0, l1⟩ := by
  show impl_exprAtom.body (impl_exprSum K) (impl_exprProduct K) (impl_exprAtom K) ⟨s, (j : Int), 0, l⟩ = _
  unfold impl_exprAtom.body impl_plainAtom
  dsimp only
  rw [skip_no hj (by omega), Option.bind_some, if_neg (by simp)]
  dsimp only
  rw [peek_ok hj, Option.bind_some, skip_yes hj (by omega) h40, Option.bind_some, if_pos rfl]
  dsimp only
  rw [bracket_yes (by omega) h hj1 h41, Option.bind_some]; rfl
theorem Wn {n : Nat} (h : n ≤ 1000000) (h1 : 1 ≤ n) : W ((n : Int) - 1) = ((n - 1 : Nat) : Int) := by
  rw [W, W_eq (by omega) (by omega)]; omega
theorem exAtom_reads {s : ByteArray} (hs : s.size ≤ 200) : ∀ (t : GT) (j K : Nat) (l : List TNode), t.wf exP → At s j (bys (exTxt t)) → l.length + t.size ≤ 100000 → 3 * t.size ≤ K → impl_exprAtom K ⟨s, (j : Int), 0, l⟩ = some ⟨s, ((j + (exTxt t).size : Nat) : Int), 0, l ++ t.nodes l.length⟩
  | .leaf k a, j, K, l, h, hA, hl, hK => by
    obtain ⟨K, rfl⟩ : ∃ k, K = k + 1 := ⟨K - 1, by simp [GT.z1, GT.z2, GT.size] at hK; omega⟩
    rcases ex0 h with ⟨rfl, rfl⟩ | ⟨rfl, rfl⟩ | ⟨rfl, h3⟩
    · have hA' : At s j [116] := hA
      exact atom_leaf hs (by omega) hA'.head.1 (.inl ⟨rfl, rfl, hA'.head.2⟩)
    · have hA' : At s j [102] := hA
      exact atom_leaf hs (by omega) hA'.head.1 (.inr (.inl ⟨rfl, rfl, hA'.head.2⟩))
    · have e : exTxt (.leaf 3 a) = impl_digit a := rfl
      rw [e, digit_bys h3] at hA
      have hz : (exTxt (.leaf 3 a)).size = 1 := by rw [e, exdigit_size]
      rw [hz]
      exact atom_leaf hs (by omega) hA.head.1 (.inr (.inr ⟨rfl, h3.1, h3.2, hA.head.2⟩))
  | .one k t, j, K, l, h, hA, hl, hK => by
    obtain rfl := ex1 h.2
    have hp := t.pos
    obtain ⟨K, rfl⟩ : ∃ k, K = k + 1 := ⟨K - 1, by simp [GT.z1, GT.z2, GT.size] at hK; omega⟩
    have e : exTxt (.one 4 t) = ⟨#[33]⟩ ++ exTxt t := rfl
    rw [e, bys_app] at hA
    have hL : At s j [33] := hA.left
    have hR : At s (j + 1) (bys (exTxt t)) := hA.right
    have h1 := exAtom_reads hs t (j + 1) K l h.1 hR (by simp [GT.z1, GT.z2, GT.size] at hl; omega) (by simp [GT.z1, GT.z2, GT.size] at hK; omega)
    have hll : (l ++ t.nodes l.length).length = l.length + t.size := by rw [List.length_append, t.len]
    have hsz : t.size + 1 + l.length ≤ 100000 := by simp [GT.z1, GT.z2, GT.size] at hl; omega
    show impl_exprAtom.body (impl_exprSum K) (impl_exprProduct K) (impl_exprAtom K) ⟨s, (j : Int), 0, l⟩ = _
    unfold impl_exprAtom.body
    dsimp only
    rw [skip_yes hL.head.1 (by omega) hL.head.2, Option.bind_some, if_pos rfl]
    dsimp only
    rw [h1, Option.bind_some]
    dsimp only
    rw [one_eq (by omega), Option.bind_some, hll, Wn (by omega) (by omega), e, size_app, show j + ((⟨#[33]⟩ : ByteArray).size + (exTxt t).size) = j + 1 + (exTxt t).size by show j + (1 + _) = _; omega]
    simp only [GT.n0, GT.n1, GT.n2]
    rw [List.append_assoc]
  | .two k a b, j, K, l, h, hA, hl, hK => by
    obtain ⟨K, rfl⟩ : ∃ k, K = k + 1 + 1 + 1 := ⟨K - 3, by simp [GT.z1, GT.z2, GT.size] at hK; omega⟩
    have hp := a.pos
    have hq := b.pos
    have hsz : l.length + a.size + b.size + 1 ≤ 100000 := by simp [GT.z1, GT.z2, GT.size] at hl; omega
    have hK' : 3 * a.size + 3 * b.size ≤ K := by simp [GT.z1, GT.z2, GT.size] at hK; omega
    have hla : (l ++ a.nodes l.length).length = l.length + a.size := by rw [List.length_append, a.len]
    have hlb : (l ++ a.nodes l.length ++ b.nodes (l.length + a.size)).length = l.length + a.size + b.size := by rw [List.length_append, hla, b.len]
    have fin : ∀ c : UInt8, At s j (bys ((((⟨#[40]⟩ ++ exTxt a) ++ ⟨#[c]⟩) ++ exTxt b) ++ ⟨#[41]⟩)) → At s j [40] ∧ At s (j + 1) (bys (exTxt a)) ∧ At s (j + 1 + (exTxt a).size) [(c.toNat : Int)] ∧ At s (j + 1 + (exTxt a).size + 1) (bys (exTxt b)) ∧ At s (j + 1 + (exTxt a).size + 1 + (exTxt b).size) [41] := by
      intro c hA
      simp only [bys_app, List.append_assoc] at hA
      have g1 := hA.left
      have g2 := hA.right
      have e40 : (bys ⟨#[40]⟩).length = 1 := rfl
      rw [e40] at g2
      have g3 := g2.right
      rw [bys_len] at g3
      have g4 := g3.right
      have ec : (bys ⟨#[c]⟩).length = 1 := rfl
      rw [ec] at g4
      have g5 := g4.right
      rw [bys_len] at g5
      exact ⟨g1, g2.left, g3.left, g4.left, g5⟩
    have sz : ∀ c : UInt8, ((((⟨#[40]⟩ ++ exTxt a) ++ (⟨#[c]⟩ : ByteArray)) ++ exTxt b) ++ (⟨#[41]⟩ : ByteArray)).size = 1 + (exTxt a).size + 1 + (exTxt b).size + 1 := fun c => by simp only [size_app]; rfl
    rcases ex2 h.2.2 with rfl | rfl
    · have e : exTxt (.two 5 a b) = (((⟨#[40]⟩ ++ exTxt a) ++ ⟨#[38]⟩) ++ exTxt b) ++ ⟨#[41]⟩ := rfl
      rw [e] at hA
      obtain ⟨g1, g2, g3, g4, g5⟩ := fin 38 hA
      have c46 : bt s (j + 1 + (exTxt a).size) = 38 := g3.head.2
      have c41 := g5.head.2
      have h1 := exAtom_reads hs a (j + 1) K l h.1 g2 (by omega) (by omega)
      have h2 := exAtom_reads hs b (j + 1 + (exTxt a).size + 1) K (l ++ a.nodes l.length) h.2.1 g4 (by omega) (by omega)
      rw [hla] at h2
      have h3 := row_two (kind := 5) (op := 38) (by omega) (by omega) h1 g3.head.1 c46 h2 (fun _ => by rw [c41]; decide)
      have h4 := prod_row h3
      have h5 := sum_one h4 (fun _ => by rw [c41]; decide)
      rw [atom_bracket hs g1.head.1 g1.head.2 h5 g5.head.1 c41, e, sz, hla, hlb, Wn (by omega) (by omega), Wn (by omega) (by omega), show j + 1 + (exTxt a).size + 1 + (exTxt b).size + 1 = j + (1 + (exTxt a).size + 1 + (exTxt b).size + 1) by omega]
      simp only [GT.n0, GT.n1, GT.n2]
      simp only [List.append_assoc]
    · have e : exTxt (.two 6 a b) = (((⟨#[40]⟩ ++ exTxt a) ++ ⟨#[124]⟩) ++ exTxt b) ++ ⟨#[41]⟩ := rfl
      rw [e] at hA
      obtain ⟨g1, g2, g3, g4, g5⟩ := fin 124 hA
      have c46 : bt s (j + 1 + (exTxt a).size) = 124 := g3.head.2
      have c41 := g5.head.2
      have h1 := exAtom_reads hs a (j + 1) K l h.1 g2 (by omega) (by omega)
      have h2 := exAtom_reads hs b (j + 1 + (exTxt a).size + 1) K (l ++ a.nodes l.length) h.2.1 g4 (by omega) (by omega)
      rw [hla] at h2
      have p1 := prod_one h1 (fun _ => by rw [c46]; decide)
      have p2 := prod_one h2 (fun _ => by rw [c41]; decide)
      have h3 := row_two (kind := 6) (op := 124) (by omega) (by omega) p1 g3.head.1 c46 p2 (fun _ => by rw [c41]; decide)
      have h5 := sum_row h3
      rw [atom_bracket hs g1.head.1 g1.head.2 h5 g5.head.1 c41, e, sz, hla, hlb, Wn (by omega) (by omega), Wn (by omega) (by omega), show j + 1 + (exTxt a).size + 1 + (exTxt b).size + 1 = j + (1 + (exTxt a).size + 1 + (exTxt b).size + 1) by omega]
      simp only [GT.n0, GT.n1, GT.n2]
      simp only [List.append_assoc]
theorem exParse_tree {t : GT} (h : t.wf exP) (hs : t.size ≤ 31) : impl_ExprParse 900 (exTxt t) = some (t.nodes 0, ((exTxt t).size : Int), 0) := by
  have hz := exTxt_size t
  have h1 := exAtom_reads (s := exTxt t) (by omega) t 0 898 [] h (At.all _) (by simp; omega) (by omega)
  have h2 := sum_one (prod_one h1 (fun x => by omega)) (fun x => by omega)
  unfold impl_ExprParse
  simp only [List.nil_append, List.length_nil, Nat.zero_add] at h2
  rw [parsed_well (by omega) h2 (by rw [t.len]; omega), Option.bind_some]
theorem ex_treed : ∀ K, TreedF exP (impl_exprSum K) ∧ TreedF exP (impl_exprProduct K) ∧ TreedF exP (impl_exprAtom K)
  | 0 => ⟨fun s j l r h => (nomatch (show (none : Option Treader) = some r from h)), fun s j l r h => (nomatch (show (none : Option Treader) = some r from h)), fun s j l r h => (nomatch (show (none : Option Treader) = some r from h))⟩
  | K + 1 => by
    obtain ⟨i1, i2, i3⟩ := ex_treed K
    refine ⟨fun s j l r h => ?_, fun s j l r h => ?_, fun s j l r h => ?_⟩
    · have h : impl_exprSum.body (impl_exprSum K) (impl_exprProduct K) (impl_exprAtom K) ⟨s, j, 0, l⟩ = some r := h
      unfold impl_exprSum.body at h
      obtain ⟨a, h1, h2⟩ := bindE h
      obtain rfl := someE h2
      exact row_treed i2 ex6' s j l a h1
    · have h : impl_exprProduct.body (impl_exprSum K) (impl_exprProduct K) (impl_exprAtom K) ⟨s, j, 0, l⟩ = some r := h
      unfold impl_exprProduct.body at h
      obtain ⟨a, h1, h2⟩ := bindE h
      obtain rfl := someE h2
      exact row_treed i3 ex5' s j l a h1
    · have h : impl_exprAtom.body (impl_exprSum K) (impl_exprProduct K) (impl_exprAtom K) ⟨s, j, 0, l⟩ = some r := h
      unfold impl_exprAtom.body at h
      obtain ⟨a0, g1, g2⟩ := bindE h
      dsimp only at g1
      rcases skip_inv g1 with ⟨e1, _, j', e3⟩ | ⟨e1, e2⟩
      · rw [if_pos e1, e3] at g2
        obtain ⟨t1, g3, g4⟩ := bindE g2
        obtain ⟨t2, g5, g6⟩ := bindE g4
        obtain rfl := someE g6
        exact Treed.one (i3 s j' l t1 g3) ex1' g5
      rw [if_neg (by rw [e1]; simp), e2] at g2
      obtain ⟨t2, hP, g4⟩ := bindE g2
      obtain rfl := someE g4
      unfold impl_plainAtom at hP
      obtain ⟨b, h1, h2⟩ := bindE hP
      obtain ⟨a1, h3, h4⟩ := bindE h2
      rcases skip_inv h3 with ⟨e1, _, j', e3⟩ | ⟨e1, e2⟩
      · rw [if_pos e1, e3] at h4
        obtain ⟨a2, h5, h6⟩ := bindE h4
        obtain rfl := someE h6
        exact bracket_treed i1 s j' l a2 h5
      rw [if_neg (by rw [e1]; simp), e2] at h4
      obtain ⟨a2, h5, h6⟩ := bindE h4
      rcases skip_inv h5 with ⟨e1, _, j', e3⟩ | ⟨e1, e2⟩
      · rw [if_pos e1, e3] at h6
        obtain ⟨a3, h7, h8⟩ := bindE h6
        obtain rfl := someE h8
        exact Treed.leaf (ex0' (.inl ⟨rfl, rfl⟩)) h7
      rw [if_neg (by rw [e1]; simp), e2] at h6
      obtain ⟨a3, h7, h8⟩ := bindE h6
      rcases skip_inv h7 with ⟨e1, _, j', e3⟩ | ⟨e1, e2⟩
      · rw [if_pos e1, e3] at h8
        obtain ⟨a4, h9, h10⟩ := bindE h8
        obtain rfl := someE h10
        exact Treed.leaf (ex0' (.inr (.inl ⟨rfl, rfl⟩))) h9
      rw [if_neg (by rw [e1]; simp), e2, bnd_eq] at h8
      split at h8
      · rename_i k
        simp only [Bool.and_eq_true, decide_eq_true_eq] at k
        obtain ⟨a4, h9, h10⟩ := bindE h8
        obtain rfl := someE h10
        refine Treed.leaf (ex0' (.inr (.inr ⟨rfl, ?_⟩))) h9
        rw [digit_eq (by omega), byte_i64 (by omega), W, W_eq (by omega) (by omega)]
        omega
      · obtain ⟨a4, h9, h10⟩ := bindE h8
        obtain rfl := someE h10
        exact Treed.fail h9
theorem exParse_well {s : ByteArray} {r : List TNode × Int × Int} (h : impl_ExprParse 900 s = some r) (hc : r.2.2 = 0) : ∃ t : GT, t.wf exP ∧ t.size ≤ 31 ∧ r.1 = t.nodes 0 := by
  unfold impl_ExprParse at h
  obtain ⟨a, h1, h2⟩ := bindE h
  obtain rfl := someE h2
  exact parsed_treed (ex_treed 900).1 h1 hc
end Go.Proofs.Ytmmgpcnngaekoaa
