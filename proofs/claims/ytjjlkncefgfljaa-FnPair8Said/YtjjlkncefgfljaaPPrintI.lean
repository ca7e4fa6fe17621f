/- The text of a formula, as the program writes it. -/
import Derived.Test.YtjjlkncefgfljaaDPair8
import Derived.Test.YtjjlkncefgfljaaPText
import Derived.Test.YtjjlkncefgfljaaPLtlOk
namespace Go.Proofs.Ytjjlkncefgfljaa
open Go Go.RowKit E
set_option linter.unusedVariables false

def sgn (k : Int) : ByteArray := if k = 4 then ⟨#[33]⟩ else if k = 5 then ⟨#[38]⟩ else if k = 6 then ⟨#[124]⟩ else if k = 7 then ⟨#[88]⟩ else if k = 8 then ⟨#[85]⟩ else if k = 9 then ⟨#[82]⟩ else if k = 10 then ⟨#[70]⟩ else if k = 11 then ⟨#[71]⟩ else ⟨#[]⟩
theorem l8Sign_size (k : Int) : (sgn k).size ≤ 1 := by
  unfold sgn
  (repeat' split) <;> first | exact Nat.le_refl 1 | exact Nat.zero_le 1
/-- A formula node's text, by its parts' texts. -/
noncomputable def ltText (n : TNode) (ts : List ByteArray) : ByteArray :=
  if n.kind = 1 then ⟨#[116]⟩
  else if n.kind = 2 then ⟨#[102]⟩
  else if n.kind = 3 then impl_digit n.a
  else if n.kind = 4 ∨ n.kind = 7 ∨ n.kind = 10 ∨ n.kind = 11 then sgn n.kind ++ ts.getD n.a.toNat default
  else (((⟨#[40]⟩ ++ ts.getD n.a.toNat default) ++ sgn n.kind) ++ ts.getD n.b.toNat default) ++ ⟨#[41]⟩
theorem l8digit_size (x : Int) : (impl_digit x).size = 1 := by
  unfold impl_digit bstr; rfl
theorem ltText_short (n : TNode) (ts : List ByteArray) (hn : NodeAt ltP ts.length n) (h : Short ts) : (ltText n ts).size ≤ 4 ^ (ts.length + 1) := by
  have hp : 4 ^ (ts.length + 1) = 4 * 4 ^ ts.length := by rw [Nat.pow_succ, Nat.mul_comm]
  have h1 : 1 ≤ 4 ^ ts.length := Nat.one_le_pow _ _ (by omega)
  have hb : ∀ i, i < ts.length → (ts.getD i default).size ≤ 4 ^ ts.length := fun i hi => Nat.le_trans (h i hi) (Nat.pow_le_pow_right (by omega) (by omega))
  have hk := ltKinds hn
  have hs := l8Sign_size n.kind
  unfold ltText
  split
  · show 1 ≤ _; omega
  split
  · show 1 ≤ _; omega
  split
  · rw [l8digit_size]; omega
  split
  · have := hb n.a.toNat (by omega)
    rw [size_app]; omega
  · have g1 := hb n.a.toNat (by omega)
    have g2 := hb n.b.toNat (by omega)
    have h2 : 4 ≤ 4 ^ ts.length := by
      have : 4 ^ 1 ≤ 4 ^ ts.length := Nat.pow_le_pow_right (by omega) (by omega)
      omega
    simp only [size_app]; show 1 + _ + _ + _ + 1 ≤ _; omega
noncomputable def ltTexts (e : List TNode) : List ByteArray := accum ltText [] e
theorem ltTexts_size {e : List TNode} (h : Nodes ltP e) : ∀ i, i < e.length → ((ltTexts e).getD i default).size ≤ 4 ^ (i + 1) :=
  fun i hi => accum_size (P := NodeAt ltP) h.2.2 ltText_short hi
theorem ltText_congr {i : Nat} {n : TNode} {ts us : List ByteArray} (hn : NodeAt ltP i n) (h : ∀ x : Int, 0 ≤ x → x < i → ts.getD x.toNat default = us.getD x.toNat default) : ltText n ts = ltText n us := by
  have hk := ltKinds hn
  by_cases k1 : n.kind = 1
  · unfold ltText; rw [if_pos k1, if_pos k1]
  by_cases k2 : n.kind = 2
  · unfold ltText; rw [if_neg k1, if_neg k1, if_pos k2, if_pos k2]
  by_cases k3 : n.kind = 3
  · unfold ltText; rw [if_neg k1, if_neg k1, if_neg k2, if_neg k2, if_pos k3, if_pos k3]
  unfold ltText
  rw [if_neg k1, if_neg k1, if_neg k2, if_neg k2, if_neg k3, if_neg k3, h n.a (by omega) (by omega)]
  by_cases k4 : n.kind = 4 ∨ n.kind = 7 ∨ n.kind = 10 ∨ n.kind = 11
  · rw [if_pos k4, if_pos k4]
  · rw [h n.b (by omega) (by omega)]
theorem ltTexts_step {e : List TNode} (h : Nodes ltP e) {i : Nat} (hi : i < e.length) : (ltTexts e).getD i default = ltText (e.getD i default) (ltTexts e) := by
  have h1 := accum_get ltText default e hi
  show (accum ltText [] e).getD i default = _
  rw [h1]
  exact ltText_congr (h.2.2 i hi) fun x h0 h1 => accum_take ltText default e (by omega) (by omega)
theorem ltP0 {n : TNode} (h : ((n.kind = 1 ∨ n.kind = 2) ∧ n.a = 0 ∨ n.kind = 3 ∧ 0 ≤ n.a ∧ n.a ≤ 2) ∧ n.b = 0) : impl_ltlParts n = 0 := by
  show ltP n = 0
  rw [ltP_eq]
  split
  · rw [if_pos (by omega)]
  · rw [if_pos (by omega), if_pos (by omega)]
theorem ltP1 {n : TNode} (h : n.kind = 4 ∨ n.kind = 7 ∨ n.kind = 10 ∨ n.kind = 11) : impl_ltlParts n = 1 := by
  show ltP n = 1
  rw [ltP_eq, if_neg (by omega), if_neg (by omega), if_pos h]
theorem ltP2 {n : TNode} (h : n.kind = 5 ∨ n.kind = 6 ∨ n.kind = 8 ∨ n.kind = 9) : impl_ltlParts n = 2 := by
  show ltP n = 2
  rw [ltP_eq, if_neg (by omega), if_neg (by omega), if_neg (by omega), if_pos h]
theorem signOf_eq {k : Int} (h : 1 ≤ k ∧ k ≤ 11) : impl_signOf k = some (if k = 1 then ⟨#[116]⟩ else if k = 2 then ⟨#[102]⟩ else sgn k) := by
  have : k = 1 ∨ k = 2 ∨ k = 3 ∨ k = 4 ∨ k = 5 ∨ k = 6 ∨ k = 7 ∨ k = 8 ∨ k = 9 ∨ k = 10 ∨ k = 11 := by omega
  rcases this with rfl | rfl | rfl | rfl | rfl | rfl | rfl | rfl | rfl | rfl | rfl <;> rfl
theorem implLtlPrint_loop {e : List TNode} (h : Nodes ltP e) : loop (fun s : List ByteArray × Int => impl_printed.b0 e (fun q0 => some (impl_ltlParts q0)) s.1 s.2) (List.replicate e.length ⟨#[]⟩, 0) = some (ltTexts e) := by
  have hT : (ltTexts e).length = e.length := by unfold ltTexts; rw [accum_len]; simp
  have hb := h.2.1
  have h1 := loop_up (body := fun s : List ByteArray × Int => impl_printed.b0 e (fun q0 => some (impl_ltlParts q0)) s.1 s.2) e.length (fun k => ((ltTexts e).take k ++ List.replicate (e.length - k) ⟨#[]⟩, (k : Int))) (ltTexts e) (fun k hi => ?_) ?_ 0 (Nat.zero_le _)
  · simp only [List.take_zero, List.nil_append, Nat.sub_zero, Int.natCast_zero] at h1
    exact h1
  · (try dsimp only); unfold impl_printed.b0
    rw [if_pos (by omega), ix_nat hi, Option.bind_some]
    have hk := ltKinds (h.2.2 _ hi)
    have hs := ltTexts_step h hi
    generalize e.getD k default = n at hk hs
    have hlen : ((ltTexts e).take k ++ List.replicate (e.length - k) (⟨#[]⟩ : ByteArray)).length = e.length := by simp; omega
    have ra : ∀ x : Int, 0 ≤ x → x < k → ix ((ltTexts e).take k ++ List.replicate (e.length - k) (⟨#[]⟩ : ByteArray)) x = some ((ltTexts e).getD x.toNat default) := fun x h0 h1 => by
      rw [ix_ok h0 (by rw [hlen]; omega)]
      congr 1
      rw [List.getD_eq_getElem?_getD, List.getD_eq_getElem?_getD, List.getElem?_append_left (by simp; omega), List.getElem?_take_of_lt (by omega)]
    have hck : ∀ t, ck (k : Int) (((ltTexts e).take k ++ List.replicate (e.length - k) (⟨#[]⟩ : ByteArray)).set k t).length = some k := fun t => ck_nat (by rw [List.length_set, hlen]; exact hi)
    have hck0 : ck (k : Int) ((ltTexts e).take k ++ List.replicate (e.length - k) (⟨#[]⟩ : ByteArray)).length = some k := ck_nat (by rw [hlen]; exact hi)
    have fin : ∀ t, t = ltText n (ltTexts e) → (some (.inl (((ltTexts e).take k ++ List.replicate (e.length - k) (⟨#[]⟩ : ByteArray)).set k t, W ((k : Int) + 1))) : Option ((List ByteArray × Int) ⊕ List ByteArray)) = some (.inl ((ltTexts e).take (k + 1) ++ List.replicate (e.length - (k + 1)) ⟨#[]⟩, ((k + 1 : Nat) : Int))) := by
      intro t ht
      rw [W, W_nat (by omega), List.set_append_right _ _ (by simp; omega), show e.length - k = (e.length - (k + 1)) + 1 by omega, List.replicate_succ]
      have h2 : k - ((ltTexts e).take k).length = 0 := by simp; omega
      have h3 : (ltTexts e).take (k + 1) = (ltTexts e).take k ++ [t] := by
        rw [List.take_succ_eq_append_getElem (by omega), ht, ← hs]; simp [hT, hi]
      rw [h2, h3]; simp only [List.set_cons_zero, List.append_assoc, List.singleton_append]
    have hsg := l8Sign_size n.kind
    have ts := fun a b ha hb => two_short (ts := ltTexts e) h.2.1 hi (ltTexts_size h) (a := a) (b := b) ha hb
    rw [signOf_eq (by omega), Option.bind_some]
    simp only [Option.bind_some]
    by_cases k1 : n.kind = 1
    · rw [ltP0 (by omega), if_pos rfl, hck0, Option.bind_some, if_neg (by omega), if_pos k1]
      exact fin _ (by unfold ltText; rw [if_pos k1])
    by_cases k2 : n.kind = 2
    · rw [ltP0 (by omega), if_pos rfl, hck0, Option.bind_some, if_neg (by omega), if_neg k1, if_pos k2]
      exact fin _ (by unfold ltText; rw [if_neg k1, if_pos k2])
    rw [if_neg k1, if_neg k2]
    by_cases k3 : n.kind = 3
    · rw [ltP0 (by omega), if_pos rfl, hck0, Option.bind_some, if_pos k3, hck, Option.bind_some, List.set_set]
      exact fin _ (by unfold ltText; rw [if_neg k1, if_neg k2, if_pos k3])
    by_cases k4 : n.kind = 4 ∨ n.kind = 7 ∨ n.kind = 10 ∨ n.kind = 11
    · rw [ltP1 k4, if_neg (by decide), if_pos rfl, ra n.a (by omega) (by omega), Option.bind_some, cat_ok (by have := ts n.a.toNat n.a.toNat (by omega) (by omega); omega), Option.bind_some, hck0, Option.bind_some]
      exact fin _ (by unfold ltText; rw [if_neg k1, if_neg k2, if_neg k3, if_pos k4])
    · have t2 := ts n.a.toNat n.b.toNat (by omega) (by omega)
      rw [ltP2 (by omega), if_neg (by decide), if_neg (by decide), ra n.a (by omega) (by omega), ra n.b (by omega) (by omega)]
      simp only [Option.bind_some]
      rw [cat_ok (by show 1 + _ ≤ _; omega), Option.bind_some, cat_ok (by rw [size_app]; show 1 + _ + _ ≤ _; omega), Option.bind_some, cat_ok (by rw [size_app, size_app]; show 1 + _ + _ + _ ≤ _; omega), Option.bind_some, cat_ok (by rw [size_app, size_app, size_app]; show 1 + _ + _ + _ + 1 ≤ _; omega), Option.bind_some, hck0, Option.bind_some]
      exact fin _ (by unfold ltText; rw [if_neg k1, if_neg k2, if_neg k3, if_neg k4])
  · (try dsimp only); unfold impl_printed.b0
    rw [if_neg (by omega)]; simp [← hT]
noncomputable def ltPrint (e : List TNode) : ByteArray := if treeOk ltP e = true then (ltTexts e).getD (e.length - 1) default else ⟨#[]⟩
theorem implLtlPrint_eq (e : List TNode) : impl_LtlPrint e = some (ltPrint e) := by
  unfold impl_LtlPrint ltPrint
  rw [implLtlOk_eq, Option.bind_some]
  by_cases h : treeOk ltP e = true
  · have hn := treeOk_nodes h
    have h1 := hn.1
    have h2 := hn.2.1
    have hT : (ltTexts e).length = e.length := by unfold ltTexts; rw [accum_len]; simp
    rw [if_neg (by rw [h]; simp), if_pos h]
    unfold impl_printed
    rw [mk_ok (by omega) (by omega), Option.bind_some, Int.toNat_natCast, implLtlPrint_loop hn, Option.bind_some]
    unfold impl_printed.k0
    rw [W, W_eq (by omega) (by omega), show ((e.length : Int) - 1) = ((e.length - 1 : Nat) : Int) by omega, ix_nat (by omega)]; rfl
  · rw [if_pos (by simpa using h), if_neg h]
end Go.Proofs.Ytjjlkncefgfljaa
