/- The text of an expression, as the program writes it, and as the reference writes a part. -/
import Derived.Test.YtmmgpcnngaekoaaDExprText
import Derived.Test.YtmmgpcnngaekoaaPText
import Derived.Test.YtmmgpcnngaekoaaPExprOkN
namespace Go.Proofs.Ytmmgpcnngaekoaa
open Go Go.RowKit E
set_option linter.unusedVariables false

def sgn (k : Int) : ByteArray := if k = 4 then ⟨#[33]⟩ else if k = 5 then ⟨#[38]⟩ else if k = 6 then ⟨#[124]⟩ else if k = 7 then ⟨#[88]⟩ else if k = 8 then ⟨#[85]⟩ else if k = 9 then ⟨#[82]⟩ else if k = 10 then ⟨#[70]⟩ else if k = 11 then ⟨#[71]⟩ else ⟨#[]⟩
theorem sgn_size (k : Int) : (sgn k).size ≤ 1 := by
  unfold sgn
  (repeat' split) <;> first | exact Nat.le_refl 1 | exact Nat.zero_le 1
/-- A expression node's text, by its parts' texts. -/
noncomputable def exText (n : TNode) (ts : List ByteArray) : ByteArray :=
  if n.kind = 1 then ⟨#[116]⟩
  else if n.kind = 2 then ⟨#[102]⟩
  else if n.kind = 3 then impl_digit n.a
  else if n.kind = 4 then sgn n.kind ++ ts.getD n.a.toNat default
  else (((⟨#[40]⟩ ++ ts.getD n.a.toNat default) ++ sgn n.kind) ++ ts.getD n.b.toNat default) ++ ⟨#[41]⟩
theorem exdigit_size (x : Int) : (impl_digit x).size = 1 := by
  unfold impl_digit bstr; rfl
theorem exText_short (n : TNode) (ts : List ByteArray) (hn : NodeAt exP ts.length n) (h : Short ts) : (exText n ts).size ≤ 4 ^ (ts.length + 1) := by
  have hp : 4 ^ (ts.length + 1) = 4 * 4 ^ ts.length := by rw [Nat.pow_succ, Nat.mul_comm]
  have h1 : 1 ≤ 4 ^ ts.length := Nat.one_le_pow _ _ (by omega)
  have hb : ∀ i, i < ts.length → (ts.getD i default).size ≤ 4 ^ ts.length := fun i hi => Nat.le_trans (h i hi) (Nat.pow_le_pow_right (by omega) (by omega))
  have hk := exKinds hn
  have hs := sgn_size n.kind
  unfold exText
  split
  · show 1 ≤ _; omega
  split
  · show 1 ≤ _; omega
  split
  · rw [exdigit_size]; omega
  split
  · have := hb n.a.toNat (by omega)
    rw [size_app]; omega
  · have g1 := hb n.a.toNat (by omega)
    have g2 := hb n.b.toNat (by omega)
    have h2 : 4 ≤ 4 ^ ts.length := by
      have : 4 ^ 1 ≤ 4 ^ ts.length := Nat.pow_le_pow_right (by omega) (by omega)
      omega
    simp only [size_app]; show 1 + _ + _ + _ + 1 ≤ _; omega
noncomputable def exTexts (e : List TNode) : List ByteArray := accum exText [] e
theorem exTexts_size {e : List TNode} (h : Nodes exP e) : ∀ i, i < e.length → ((exTexts e).getD i default).size ≤ 4 ^ (i + 1) :=
  fun i hi => accum_size (P := NodeAt exP) h.2.2 exText_short hi
theorem exText_congr {i : Nat} {n : TNode} {ts us : List ByteArray} (hn : NodeAt exP i n) (h : ∀ x : Int, 0 ≤ x → x < i → ts.getD x.toNat default = us.getD x.toNat default) : exText n ts = exText n us := by
  have hk := exKinds hn
  by_cases k1 : n.kind = 1
  · unfold exText; rw [if_pos k1, if_pos k1]
  by_cases k2 : n.kind = 2
  · unfold exText; rw [if_neg k1, if_neg k1, if_pos k2, if_pos k2]
  by_cases k3 : n.kind = 3
  · unfold exText; rw [if_neg k1, if_neg k1, if_neg k2, if_neg k2, if_pos k3, if_pos k3]
  unfold exText
  rw [if_neg k1, if_neg k1, if_neg k2, if_neg k2, if_neg k3, if_neg k3, h n.a (by omega) (by omega)]
  by_cases k4 : n.kind = 4
  · rw [if_pos k4, if_pos k4]
  · rw [h n.b (by omega) (by omega)]
theorem exTexts_step {e : List TNode} (h : Nodes exP e) {i : Nat} (hi : i < e.length) : (exTexts e).getD i default = exText (e.getD i default) (exTexts e) := by
  have h1 := accum_get exText default e hi
  show (accum exText [] e).getD i default = _
  rw [h1]
  exact exText_congr (h.2.2 i hi) fun x h0 h1 => accum_take exText default e (by omega) (by omega)
theorem exP0 {n : TNode} (h : ((n.kind = 1 ∨ n.kind = 2) ∧ n.a = 0 ∨ n.kind = 3 ∧ 0 ≤ n.a ∧ n.a ≤ 2) ∧ n.b = 0) : impl_exprParts n = 0 := by
  show exP n = 0
  rw [exP_eq]
  split
  · rw [if_pos (by omega)]
  · rw [if_pos (by omega), if_pos (by omega)]
theorem exP1 {n : TNode} (h : n.kind = 4) : impl_exprParts n = 1 := by
  show exP n = 1
  rw [exP_eq, if_neg (by omega), if_neg (by omega), if_pos h]
theorem exP2 {n : TNode} (h : n.kind = 5 ∨ n.kind = 6) : impl_exprParts n = 2 := by
  show exP n = 2
  rw [exP_eq, if_neg (by omega), if_neg (by omega), if_neg (by omega), if_pos h]
theorem signOf_eq {k : Int} (h : 1 ≤ k ∧ k ≤ 11) : impl_signOf k = some (if k = 1 then ⟨#[116]⟩ else if k = 2 then ⟨#[102]⟩ else sgn k) := by
  have : k = 1 ∨ k = 2 ∨ k = 3 ∨ k = 4 ∨ k = 5 ∨ k = 6 ∨ k = 7 ∨ k = 8 ∨ k = 9 ∨ k = 10 ∨ k = 11 := by omega
  rcases this with rfl | rfl | rfl | rfl | rfl | rfl | rfl | rfl | rfl | rfl | rfl <;> rfl
theorem implExprPrint_loop {e : List TNode} (h : Nodes exP e) : loop (fun s : List ByteArray × Int => impl_printed.b0 e (fun q0 => some (impl_exprParts q0)) s.1 s.2) (List.replicate e.length ⟨#[]⟩, 0) = some (exTexts e) := by
  have hT : (exTexts e).length = e.length := by unfold exTexts; rw [accum_len]; simp
  have hb := h.2.1
  have h1 := loop_up (body := fun s : List ByteArray × Int => impl_printed.b0 e (fun q0 => some (impl_exprParts q0)) s.1 s.2) e.length (fun k => ((exTexts e).take k ++ List.replicate (e.length - k) ⟨#[]⟩, (k : Int))) (exTexts e) (fun k hi => ?_) ?_ 0 (Nat.zero_le _)
  · simp only [List.take_zero, List.nil_append, Nat.sub_zero, Int.natCast_zero] at h1
    exact h1
  · (try dsimp only); unfold impl_printed.b0
    rw [if_pos (by omega), ix_nat hi, Option.bind_some]
    have hk := exKinds (h.2.2 _ hi)
    have hs := exTexts_step h hi
    generalize e.getD k default = n at hk hs
    have hlen : ((exTexts e).take k ++ List.replicate (e.length - k) (⟨#[]⟩ : ByteArray)).length = e.length := by simp; omega
    have ra : ∀ x : Int, 0 ≤ x → x < k → ix ((exTexts e).take k ++ List.replicate (e.length - k) (⟨#[]⟩ : ByteArray)) x = some ((exTexts e).getD x.toNat default) := fun x h0 h1 => by
      rw [ix_ok h0 (by rw [hlen]; omega)]
      congr 1
      rw [List.getD_eq_getElem?_getD, List.getD_eq_getElem?_getD, List.getElem?_append_left (by simp; omega), List.getElem?_take_of_lt (by omega)]
    have hck : ∀ t, ck (k : Int) (((exTexts e).take k ++ List.replicate (e.length - k) (⟨#[]⟩ : ByteArray)).set k t).length = some k := fun t => ck_nat (by rw [List.length_set, hlen]; exact hi)
    have hck0 : ck (k : Int) ((exTexts e).take k ++ List.replicate (e.length - k) (⟨#[]⟩ : ByteArray)).length = some k := ck_nat (by rw [hlen]; exact hi)
    have fin : ∀ t, t = exText n (exTexts e) → (some (.inl (((exTexts e).take k ++ List.replicate (e.length - k) (⟨#[]⟩ : ByteArray)).set k t, W ((k : Int) + 1))) : Option ((List ByteArray × Int) ⊕ List ByteArray)) = some (.inl ((exTexts e).take (k + 1) ++ List.replicate (e.length - (k + 1)) ⟨#[]⟩, ((k + 1 : Nat) : Int))) := by
      intro t ht
      rw [W, W_nat (by omega), List.set_append_right _ _ (by simp; omega), show e.length - k = (e.length - (k + 1)) + 1 by omega, List.replicate_succ]
      have h2 : k - ((exTexts e).take k).length = 0 := by simp; omega
      have h3 : (exTexts e).take (k + 1) = (exTexts e).take k ++ [t] := by
        rw [List.take_succ_eq_append_getElem (by omega), ht, ← hs]; simp [hT, hi]
      rw [h2, h3]; simp only [List.set_cons_zero, List.append_assoc, List.singleton_append]
    have hsg := sgn_size n.kind
    have ts := fun a b ha hb => two_short (ts := exTexts e) h.2.1 hi (exTexts_size h) (a := a) (b := b) ha hb
    rw [signOf_eq (by omega), Option.bind_some]
    simp only [Option.bind_some]
    by_cases k1 : n.kind = 1
    · rw [exP0 (by omega), if_pos rfl, hck0, Option.bind_some, if_neg (by omega), if_pos k1]
      exact fin _ (by unfold exText; rw [if_pos k1])
    by_cases k2 : n.kind = 2
    · rw [exP0 (by omega), if_pos rfl, hck0, Option.bind_some, if_neg (by omega), if_neg k1, if_pos k2]
      exact fin _ (by unfold exText; rw [if_neg k1, if_pos k2])
    rw [if_neg k1, if_neg k2]
    by_cases k3 : n.kind = 3
    · rw [exP0 (by omega), if_pos rfl, hck0, Option.bind_some, if_pos k3, hck, Option.bind_some, List.set_set]
      exact fin _ (by unfold exText; rw [if_neg k1, if_neg k2, if_pos k3])
    by_cases k4 : n.kind = 4
    · rw [exP1 k4, if_neg (by decide), if_pos rfl, ra n.a (by omega) (by omega), Option.bind_some, cat_ok (by have := ts n.a.toNat n.a.toNat (by omega) (by omega); omega), Option.bind_some, hck0, Option.bind_some]
      exact fin _ (by unfold exText; rw [if_neg k1, if_neg k2, if_neg k3, if_pos k4])
    · have t2 := ts n.a.toNat n.b.toNat (by omega) (by omega)
      rw [exP2 (by omega), if_neg (by decide), if_neg (by decide), ra n.a (by omega) (by omega), ra n.b (by omega) (by omega)]
      simp only [Option.bind_some]
      rw [cat_ok (by show 1 + _ ≤ _; omega), Option.bind_some, cat_ok (by rw [size_app]; show 1 + _ + _ ≤ _; omega), Option.bind_some, cat_ok (by rw [size_app, size_app]; show 1 + _ + _ + _ ≤ _; omega), Option.bind_some, cat_ok (by rw [size_app, size_app, size_app]; show 1 + _ + _ + _ + 1 ≤ _; omega), Option.bind_some, hck0, Option.bind_some]
      exact fin _ (by unfold exText; rw [if_neg k1, if_neg k2, if_neg k3, if_neg k4])
  · (try dsimp only); unfold impl_printed.b0
    rw [if_neg (by omega)]; simp [← hT]
noncomputable def exPrint (e : List TNode) : ByteArray := if treeOk exP e = true then (exTexts e).getD (e.length - 1) default else ⟨#[]⟩
theorem implExprPrint_eq (e : List TNode) : impl_ExprPrint e = some (exPrint e) := by
  unfold impl_ExprPrint exPrint
  rw [implExprOk_eq, Option.bind_some]
  by_cases h : treeOk exP e = true
  · have hn := treeOk_nodes h
    have h1 := hn.1
    have h2 := hn.2.1
    have hT : (exTexts e).length = e.length := by unfold exTexts; rw [accum_len]; simp
    rw [if_neg (by rw [h]; simp), if_pos h]
    unfold impl_printed
    rw [mk_ok (by omega) (by omega), Option.bind_some, Int.toNat_natCast, implExprPrint_loop hn, Option.bind_some]
    unfold impl_printed.k0
    rw [W, W_eq (by omega) (by omega), show ((e.length : Int) - 1) = ((e.length - 1 : Nat) : Int) by omega, ix_nat (by omega)]; rfl
  · rw [if_pos (by simpa using h), if_neg h]
theorem l2digit_eq (x : Int) : spec_l2Digit x = impl_digit x := rfl
theorem l2Print_eq {e : List TNode} (h : Nodes exP e) : ∀ (i K : Nat), i < e.length → i < K → spec_l2Print K e (i : Int) = some ((exTexts e).getD i default) := by
  intro i
  induction i using Nat.strongRecOn with
  | _ i ih =>
    intro K hi hK
    obtain ⟨K, rfl⟩ : ∃ k, K = k + 1 := ⟨K - 1, by omega⟩
    have hk := exKinds (h.2.2 _ hi)
    have hs := exTexts_step h hi
    rw [hs]
    show spec_l2Print.body (spec_l2Print K) e (i : Int) = _
    unfold spec_l2Print.body
    rw [ix_nat hi, Option.bind_some]
    have ts := fun a b ha hb => two_short (ts := exTexts e) h.2.1 hi (exTexts_size h) (a := a) (b := b) ha hb
    generalize e.getD i default = n at hk hs
    have ra : ∀ x : Int, 0 ≤ x → x < i → spec_l2Print K e x = some ((exTexts e).getD x.toNat default) := fun x h0 h1 => by
      have := ih x.toNat (by omega) K (by omega) (by omega)
      rw [show ((x.toNat : Nat) : Int) = x by omega] at this; exact this
    unfold exText
    split
    · rfl
    split
    · rfl
    split
    · rfl
    split
    · rename_i k4
      have := ts n.a.toNat n.a.toNat (by omega) (by omega)
      rw [ra n.a (by omega) (by omega), Option.bind_some, cat_ok (by show 1 + _ ≤ _; omega), k4]; rfl
    have k5 : n.kind = 5 ∨ n.kind = 6 := by omega
    have ts := ts n.a.toNat n.b.toNat (by omega) (by omega)
    rw [ra n.a (by omega) (by omega), ra n.b (by omega) (by omega)]
    simp only [Option.bind_some]
    split
    · rename_i k5
      rw [cat_ok (by show 1 + _ ≤ _; omega), Option.bind_some, cat_ok (by rw [size_app]; show 1 + _ + 1 ≤ _; omega), Option.bind_some, cat_ok (by rw [size_app, size_app]; show 1 + _ + 1 + _ ≤ _; omega), Option.bind_some, cat_ok (by rw [size_app, size_app, size_app]; show 1 + _ + 1 + _ + 1 ≤ _; omega), k5]; rfl
    · have k6 : n.kind = 6 := by omega
      rw [cat_ok (by show 1 + _ ≤ _; omega), Option.bind_some, cat_ok (by rw [size_app]; show 1 + _ + 1 ≤ _; omega), Option.bind_some, cat_ok (by rw [size_app, size_app]; show 1 + _ + 1 + _ ≤ _; omega), Option.bind_some, cat_ok (by rw [size_app, size_app, size_app]; show 1 + _ + 1 + _ + 1 ≤ _; omega), k6]; rfl
end Go.Proofs.Ytmmgpcnngaekoaa
