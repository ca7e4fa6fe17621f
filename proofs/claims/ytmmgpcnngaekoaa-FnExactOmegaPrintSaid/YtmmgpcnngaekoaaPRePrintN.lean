/- The text of a regex: what the program writes, and what the reference writes of a part. -/
import Derived.Test.YtmmgpcnngaekoaaDOmegaPrint
import Derived.Test.YtmmgpcnngaekoaaPTree2
import Derived.Test.YtmmgpcnngaekoaaPReOkN
namespace Go.Proofs.Ytmmgpcnngaekoaa
open Go Go.RowKit E
set_option linter.unusedVariables false

theorem cat_ok {a b : ByteArray} (h : a.size + b.size ≤ 9223372036854775807) : cat a b = some (a ++ b) := by
  unfold cat
  rw [if_neg]
  have : IntKind.i64.max = 9223372036854775807 := by decide
  rw [this]; omega
def oneB (c : UInt8) : ByteArray := ⟨#[c]⟩
theorem size_app (a b : ByteArray) : (a ++ b).size = a.size + b.size := by simp
/-- A regex node's text, by its parts' texts. -/
noncomputable def reText (n : TNode) (ts : List ByteArray) : ByteArray :=
  if n.kind = 1 then ⟨#[64]⟩
  else if n.kind = 2 then ⟨#[95]⟩
  else if n.kind = 3 then spec_l2Digit n.a
  else if n.kind = 4 then ts.getD n.a.toNat default ++ ⟨#[42]⟩
  else if n.kind = 5 then (((⟨#[40]⟩ ++ ts.getD n.a.toNat default) ++ ⟨#[46]⟩) ++ ts.getD n.b.toNat default) ++ ⟨#[41]⟩
  else (((⟨#[40]⟩ ++ ts.getD n.a.toNat default) ++ ⟨#[124]⟩) ++ ts.getD n.b.toNat default) ++ ⟨#[41]⟩
theorem digit_size (x : Int) : (spec_l2Digit x).size = 1 := by
  unfold spec_l2Digit bstr; rfl
/-- No text is longer than this. -/
def Short (ts : List ByteArray) : Prop := ∀ i, i < ts.length → (ts.getD i default).size ≤ 4 ^ (i + 1)
theorem pow4 {i : Nat} (h : i ≤ 31) : 4 ^ i ≤ 4611686018427387904 := by
  have : 4 ^ i ≤ 4 ^ 31 := Nat.pow_le_pow_right (by omega) h
  exact Nat.le_trans this (by decide)
theorem reText_short {n : TNode} {ts : List ByteArray} (hn : NodeAt reP ts.length n) (h : Short ts) : (reText n ts).size ≤ 4 ^ (ts.length + 1) := by
  have hp : 4 ^ (ts.length + 1) = 4 * 4 ^ ts.length := by rw [Nat.pow_succ, Nat.mul_comm]
  have h1 : 1 ≤ 4 ^ ts.length := Nat.one_le_pow _ _ (by omega)
  have hb : ∀ i, i < ts.length → (ts.getD i default).size ≤ 4 ^ ts.length := fun i hi => Nat.le_trans (h i hi) (Nat.pow_le_pow_right (by omega) (by omega))
  have hk := reP_eq n
  unfold reText
  split
  · show 1 ≤ _; omega
  split
  · show 1 ≤ _; omega
  split
  · rw [digit_size]; omega
  rename_i k1 k2 k3
  rw [if_neg (by omega), if_neg k3] at hk
  split
  · rename_i k4
    rw [if_pos k4] at hk
    rcases hn with g | g | g
    · omega
    · have := hb n.a.toNat (by omega)
      rw [size_app]; show _ + 1 ≤ _; omega
    · omega
  rename_i k4
  rw [if_neg k4] at hk
  have two : n.kind = 5 ∨ n.kind = 6 → (ts.getD n.a.toNat default).size + (ts.getD n.b.toNat default).size + 3 ≤ 4 ^ (ts.length + 1) := by
    intro k5
    rw [if_pos k5] at hk
    rcases hn with g | g | g
    · omega
    · omega
    · have g1 := hb n.a.toNat (by omega)
      have g2 := hb n.b.toNat (by omega)
      have h2 : 4 ≤ 4 ^ ts.length := by
        have : 4 ^ 1 ≤ 4 ^ ts.length := Nat.pow_le_pow_right (by omega) (by omega)
        omega
      omega
  have three : n.kind = 5 ∨ n.kind = 6 := by
    rcases hn with g | g | g
    · by_cases k5 : n.kind = 5 ∨ n.kind = 6
      · exact k5
      · rw [if_neg k5] at hk; omega
    · by_cases k5 : n.kind = 5 ∨ n.kind = 6
      · exact k5
      · rw [if_neg k5] at hk; omega
    · by_cases k5 : n.kind = 5 ∨ n.kind = 6
      · exact k5
      · rw [if_neg k5] at hk; omega
  have t := two three
  split
  · simp only [size_app]; show 1 + _ + 1 + _ + 1 ≤ _; omega
  · simp only [size_app]; show 1 + _ + 1 + _ + 1 ≤ _; omega
noncomputable def reTexts (e : List TNode) : List ByteArray := accum reText [] e
theorem reTexts_short {e : List TNode} (h : Nodes reP e) : ∀ i, i ≤ e.length → Short (accum reText [] (e.take i)) := by
  intro i
  induction i with
  | zero => intro _ j hj; simp [accum] at hj
  | succ i ih =>
    intro hi j hj
    have hlt : i < e.length := by omega
    have hl : (accum reText [] (e.take i)).length = i := by rw [accum_len]; simp; omega
    have hl2 : (accum reText [] (e.take (i + 1))).length = i + 1 := by rw [accum_len]; simp; omega
    by_cases hji : j < i
    · rw [accum_take reText default e (i := i + 1) (by omega) (by omega), ← accum_take reText default e (i := i) (by omega) hji]
      exact ih (by omega) j (by omega)
    · have : j = i := by omega
      subst this
      rw [accum_take reText default e (i := j + 1) (by omega) (by omega), accum_get reText default e hlt]
      have := reText_short (n := e.getD j default) (ts := accum reText [] (e.take j)) (by rw [hl]; exact h.2.2 j hlt) (ih (by omega))
      rw [hl] at this; exact this
theorem reTexts_get {e : List TNode} (h : Nodes reP e) {i : Nat} (hi : i < e.length) : (reTexts e).getD i default = reText (e.getD i default) (accum reText [] (e.take i)) ∧ ((reTexts e).getD i default).size ≤ 4 ^ (i + 1) := by
  have h1 := accum_get reText default e hi
  refine ⟨h1, ?_⟩
  have hl : (accum reText [] (e.take i)).length = i := by rw [accum_len]; simp; omega
  show ((accum reText [] e).getD i default).size ≤ _
  rw [h1]
  have := reText_short (n := e.getD i default) (ts := accum reText [] (e.take i)) (by rw [hl]; exact h.2.2 i hi) (reTexts_short h i (by omega))
  rw [hl] at this; exact this
/-- The text of the i-th node, by the texts of all. -/
theorem reText_congr {i : Nat} {n : TNode} {ts us : List ByteArray} (hn : NodeAt reP i n) (h : ∀ x : Int, 0 ≤ x → x < i → ts.getD x.toNat default = us.getD x.toNat default) : reText n ts = reText n us := by
  have hk := reKinds hn
  by_cases k1 : n.kind = 1
  · unfold reText; rw [if_pos k1, if_pos k1]
  by_cases k2 : n.kind = 2
  · unfold reText; rw [if_neg k1, if_neg k1, if_pos k2, if_pos k2]
  by_cases k3 : n.kind = 3
  · unfold reText; rw [if_neg k1, if_neg k1, if_neg k2, if_neg k2, if_pos k3, if_pos k3]
  unfold reText
  rw [if_neg k1, if_neg k1, if_neg k2, if_neg k2, if_neg k3, if_neg k3, h n.a (by omega) (by omega)]
  by_cases k4 : n.kind = 4
  · rw [if_pos k4, if_pos k4]
  · rw [h n.b (by omega) (by omega)]
theorem reTexts_step {e : List TNode} (h : Nodes reP e) {i : Nat} (hi : i < e.length) : (reTexts e).getD i default = reText (e.getD i default) (reTexts e) := by
  rw [(reTexts_get h hi).1]
  exact reText_congr (h.2.2 i hi) fun x h0 h1 => accum_take reText default e (by omega) (by omega)
theorem two_size {e : List TNode} (h : Nodes reP e) {i : Nat} (hi : i < e.length) {a b : Nat} (ha : a < i) (hb : b < i) : ((reTexts e).getD a default).size + ((reTexts e).getD b default).size + 3 ≤ 9223372036854775807 := by
  have h1 := (reTexts_get h (i := a) (by omega)).2
  have h2 := (reTexts_get h (i := b) (by omega)).2
  have h3 := pow4 (i := a + 1) (by have := h.2.1; omega)
  have h4 := pow4 (i := b + 1) (by have := h.2.1; omega)
  have h5 : 4 ^ (a + 1) ≤ 4 ^ 30 := Nat.pow_le_pow_right (by omega) (by have := h.2.1; omega)
  have h6 : 4 ^ (b + 1) ≤ 4 ^ 30 := Nat.pow_le_pow_right (by omega) (by have := h.2.1; omega)
  have : (4 : Nat) ^ 30 = 1152921504606846976 := by decide
  omega
theorem l11Print_eq {e : List TNode} (h : Nodes reP e) : ∀ (i K : Nat), i < e.length → i < K → spec_l11Print K e (i : Int) = some ((reTexts e).getD i default) := by
  intro i
  induction i using Nat.strongRecOn with
  | _ i ih =>
    intro K hi hK
    obtain ⟨K, rfl⟩ : ∃ k, K = k + 1 := ⟨K - 1, by omega⟩
    have hk := reKinds (h.2.2 _ hi)
    have hs := reTexts_step h hi
    rw [hs]
    show spec_l11Print.body (spec_l11Print K) e (i : Int) = _
    unfold spec_l11Print.body
    rw [ix_nat hi, Option.bind_some]
    generalize e.getD i default = n at hk hs
    have ra : ∀ x : Int, 0 ≤ x → x < i → spec_l11Print K e x = some ((reTexts e).getD x.toNat default) := fun x h0 h1 => by
      have := ih x.toNat (by omega) K (by omega) (by omega)
      rw [show ((x.toNat : Nat) : Int) = x by omega] at this; exact this
    unfold reText
    split
    · rfl
    split
    · rfl
    split
    · rfl
    split
    · rw [ra n.a (by omega) (by omega), Option.bind_some, cat_ok (by have := two_size h hi (a := n.a.toNat) (b := n.a.toNat) (by omega) (by omega); show _ + 1 ≤ _; omega)]; rfl
    have k5 : n.kind = 5 ∨ n.kind = 6 := by omega
    have ts := two_size h hi (a := n.a.toNat) (b := n.b.toNat) (by omega) (by omega)
    rw [ra n.a (by omega) (by omega), ra n.b (by omega) (by omega)]
    simp only [Option.bind_some]
    split
    · rw [cat_ok (by show 1 + _ ≤ _; omega), Option.bind_some, cat_ok (by rw [size_app]; show 1 + _ + 1 ≤ _; omega), Option.bind_some, cat_ok (by rw [size_app, size_app]; show 1 + _ + 1 + _ ≤ _; omega), Option.bind_some, cat_ok (by rw [size_app, size_app, size_app]; show 1 + _ + 1 + _ + 1 ≤ _; omega)]; rfl
    · rw [cat_ok (by show 1 + _ ≤ _; omega), Option.bind_some, cat_ok (by rw [size_app]; show 1 + _ + 1 ≤ _; omega), Option.bind_some, cat_ok (by rw [size_app, size_app]; show 1 + _ + 1 + _ ≤ _; omega), Option.bind_some, cat_ok (by rw [size_app, size_app, size_app]; show 1 + _ + 1 + _ + 1 ≤ _; omega)]; rfl
theorem implRePrint_loop {e : List TNode} (h : Nodes reP e) : loop (fun s : List ByteArray × Int => impl_RePrint.b0 e s.1 s.2) (List.replicate e.length ⟨#[]⟩, 0) = some (reTexts e) := by
  have hT : (reTexts e).length = e.length := by unfold reTexts; rw [accum_len]; simp
  have hb := h.2.1
  have h1 := loop_up (body := fun s : List ByteArray × Int => impl_RePrint.b0 e s.1 s.2) e.length (fun k => ((reTexts e).take k ++ List.replicate (e.length - k) ⟨#[]⟩, (k : Int))) (reTexts e) (fun k hi => ?_) ?_ 0 (Nat.zero_le _)
  · simp only [List.take_zero, List.nil_append, Nat.sub_zero, Int.natCast_zero] at h1
    exact h1
  · (try dsimp only); unfold impl_RePrint.b0
    rw [if_pos (by omega), ix_nat hi, Option.bind_some]
    have hk := reKinds (h.2.2 _ hi)
    have hs := reTexts_step h hi
    generalize e.getD k default = n at hk hs
    have hlen : ((reTexts e).take k ++ List.replicate (e.length - k) (⟨#[]⟩ : ByteArray)).length = e.length := by simp; omega
    have ra : ∀ x : Int, 0 ≤ x → x < k → ix ((reTexts e).take k ++ List.replicate (e.length - k) (⟨#[]⟩ : ByteArray)) x = some ((reTexts e).getD x.toNat default) := fun x h0 h1 => by
      rw [ix_ok h0 (by rw [hlen]; omega)]
      congr 1
      rw [List.getD_eq_getElem?_getD, List.getD_eq_getElem?_getD, List.getElem?_append_left (by simp; omega), List.getElem?_take_of_lt (by omega)]
    have hck : ck (k : Int) ((reTexts e).take k ++ List.replicate (e.length - k) (⟨#[]⟩ : ByteArray)).length = some k := ck_nat (by rw [hlen]; exact hi)
    have fin : ∀ t, t = reText n (reTexts e) → impl_RePrint.k1 (k : Int) (((reTexts e).take k ++ List.replicate (e.length - k) (⟨#[]⟩ : ByteArray)).set k t) = some (.inl ((reTexts e).take (k + 1) ++ List.replicate (e.length - (k + 1)) ⟨#[]⟩, ((k + 1 : Nat) : Int))) := by
      intro t ht
      unfold impl_RePrint.k1
      rw [W, W_nat (by omega), List.set_append_right _ _ (by simp; omega), show e.length - k = (e.length - (k + 1)) + 1 by omega, List.replicate_succ]
      have h2 : k - ((reTexts e).take k).length = 0 := by simp; omega
      have h3 : (reTexts e).take (k + 1) = (reTexts e).take k ++ [t] := by
        rw [List.take_succ_eq_append_getElem (by omega), ht, ← hs]; simp [hT, hi]
      rw [h2, h3]; simp only [List.set_cons_zero, List.append_assoc, List.singleton_append]
    split
    · rename_i k1; rw [hck, Option.bind_some]; exact fin _ (by unfold reText; rw [if_pos k1])
    rename_i k1
    split
    · rename_i k2; rw [hck, Option.bind_some]; exact fin _ (by unfold reText; rw [if_neg k1, if_pos k2])
    rename_i k2
    split
    · rename_i k3; rw [hck, Option.bind_some]; exact fin _ (by unfold reText; rw [if_neg k1, if_neg k2, if_pos k3]; rfl)
    rename_i k3
    split
    · rename_i k4
      rw [ra n.a (by omega) (by omega), Option.bind_some, cat_ok (by have := two_size h hi (a := n.a.toNat) (b := n.a.toNat) (by omega) (by omega); show _ + 1 ≤ _; omega), Option.bind_some, hck, Option.bind_some]
      exact fin _ (by unfold reText; rw [if_neg k1, if_neg k2, if_neg k3, if_pos k4])
    rename_i k4
    have k5 : n.kind = 5 ∨ n.kind = 6 := by omega
    have ts := two_size h hi (a := n.a.toNat) (b := n.b.toNat) (by omega) (by omega)
    rw [ra n.a (by omega) (by omega), ra n.b (by omega) (by omega)]
    simp only [Option.bind_some]
    split
    · rename_i k6
      rw [cat_ok (by show 1 + _ ≤ _; omega), Option.bind_some, cat_ok (by rw [size_app]; show 1 + _ + 1 ≤ _; omega), Option.bind_some, cat_ok (by rw [size_app, size_app]; show 1 + _ + 1 + _ ≤ _; omega), Option.bind_some, cat_ok (by rw [size_app, size_app, size_app]; show 1 + _ + 1 + _ + 1 ≤ _; omega), Option.bind_some, hck, Option.bind_some]
      exact fin _ (by unfold reText; rw [if_neg k1, if_neg k2, if_neg k3, if_neg k4, if_pos k6])
    · rename_i k6
      rw [if_pos (by omega), cat_ok (by show 1 + _ ≤ _; omega), Option.bind_some, cat_ok (by rw [size_app]; show 1 + _ + 1 ≤ _; omega), Option.bind_some, cat_ok (by rw [size_app, size_app]; show 1 + _ + 1 + _ ≤ _; omega), Option.bind_some, cat_ok (by rw [size_app, size_app, size_app]; show 1 + _ + 1 + _ + 1 ≤ _; omega), Option.bind_some, hck, Option.bind_some]
      exact fin _ (by unfold reText; rw [if_neg k1, if_neg k2, if_neg k3, if_neg k4, if_neg k6])
  · (try dsimp only); unfold impl_RePrint.b0
    rw [if_neg (by omega)]; simp [← hT]
noncomputable def rePrint (e : List TNode) : ByteArray := if treeOk reP e = true then (reTexts e).getD (e.length - 1) default else ⟨#[]⟩
theorem implRePrint_eq (e : List TNode) : impl_RePrint e = some (rePrint e) := by
  unfold impl_RePrint rePrint
  rw [implReOk_eq, Option.bind_some]
  by_cases h : treeOk reP e = true
  · have hn := treeOk_nodes h
    have h1 := hn.1
    have h2 := hn.2.1
    have hT : (reTexts e).length = e.length := by unfold reTexts; rw [accum_len]; simp
    rw [if_neg (by rw [h]; simp), if_pos h, mk_ok (by omega) (by omega), Option.bind_some, Int.toNat_natCast, implRePrint_loop hn, Option.bind_some]
    unfold impl_RePrint.k0
    rw [W, W_eq (by omega) (by omega), show ((e.length : Int) - 1) = ((e.length - 1 : Nat) : Int) by omega, ix_nat (by omega)]; rfl
  · rw [if_pos (by simpa using h), if_neg h]
end Go.Proofs.Ytmmgpcnngaekoaa
