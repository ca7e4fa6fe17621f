/- The reference's tables of a regex hold just where words end. -/
import Derived.Test.YtmmgpcnngaekoaaDReParts
import Derived.Test.YtmmgpcnngaekoaaPMat
import Derived.Test.YtmmgpcnngaekoaaPReSpan
namespace Go.Proofs.Ytmmgpcnngaekoaa
open Go Go.RowKit E
set_option linter.unusedVariables false

-- n steps
def Stp (R : Spn) : Nat → Spn
  | 0 => fun p q => p = q
  | n + 1 => fun p q => ∃ r, R p r ∧ Stp R n r q
theorem Stp.add {R : Spn} : ∀ {a b p q : Nat}, Stp R (a + b) p q → ∃ r, Stp R a p r ∧ Stp R b r q
  | 0, b, p, q, h => ⟨p, rfl, by rw [Nat.zero_add] at h; exact h⟩
  | a + 1, b, p, q, h => by
    rw [Nat.add_right_comm] at h
    obtain ⟨r, h1, h2⟩ := h
    obtain ⟨s, h3, h4⟩ := Stp.add h2
    exact ⟨s, ⟨r, h1, h3⟩, h4⟩
theorem Stp.le {R : Spn} (hR : ∀ p q, R p q → p ≤ q) : ∀ {n p q : Nat}, Stp R n p q → p ≤ q
  | 0, p, q, h => Nat.le_of_eq h
  | n + 1, p, q, ⟨r, h1, h2⟩ => Nat.le_trans (hR _ _ h1) (Stp.le hR h2)
theorem StarR.trans {R : Spn} {p q r : Nat} (h : StarR R p q) (k : StarR R q r) : StarR R p r := by
  induction h with
  | refl p => exact k
  | step h1 _ ih => exact .step h1 (ih k)
theorem StarR.stp {R : Spn} (hR : ∀ p q, R p q → p ≤ q) {p q : Nat} (h : StarR R p q) : ∃ n, n + p ≤ q ∧ Stp R n p q := by
  induction h with
  | refl p => exact ⟨0, by omega, rfl⟩
  | @step p q s h1 _ ih =>
    obtain ⟨n, n1, n2⟩ := ih
    have := hR _ _ h1
    by_cases e : p = q
    · subst e; exact ⟨n, n1, n2⟩
    · exact ⟨n + 1, by omega, q, h1, n2⟩
theorem StarR.le {R : Spn} (hR : ∀ p q, R p q → p ≤ q) {p q : Nat} (h : StarR R p q) : p ≤ q := by
  obtain ⟨n, n1, _⟩ := h.stp hR; omega

-- seven doublings
noncomputable def dbl (m : Nat) (A : Nat → Nat → Bool) (f : Nat → Nat → Bool) : Nat → Nat → Bool := fun p q => f p q || thenG m f (fun p q => f p q || A p q) (fun p q r => p ≤ q ∧ q ≤ r) p q
noncomputable def stF (m : Nat) (A f : Nat → Nat → Bool) : Nat → Nat → Nat → Bool
  | 0 => f
  | k + 1 => dbl m A (stF m A f k)
theorem dbl_mono {m : Nat} {A f : Nat → Nat → Bool} {p q : Nat} (h : f p q = true) : dbl m A f p q = true := by unfold dbl; rw [h]; rfl
theorem stF_sound {m : Nat} {A f : Nat → Nat → Bool} {R : Spn} (hA : ∀ p q, p < m → q < m → (A p q = true ↔ R p q)) (hf : ∀ p q, p < m → q < m → (f p q = true ↔ p = q)) : ∀ k p q, p < m → q < m → stF m A f k p q = true → StarR R p q
  | 0, p, q, hp, hq, h => by rw [(hf p q hp hq).mp h]; exact .refl q
  | k + 1, p, q, hp, hq, h => by
    unfold stF dbl at h
    rw [Bool.or_eq_true, thenG_t] at h
    rcases h with h | ⟨r, r1, _, r3, r4⟩
    · exact stF_sound hA hf k p q hp hq h
    · have h1 := stF_sound hA hf k p r hp r1 r3
      rw [Bool.or_eq_true] at r4
      rcases r4 with h2 | h2
      · exact h1.trans (stF_sound hA hf k r q r1 hq h2)
      · exact h1.trans (.step ((hA r q r1 hq).mp h2) (.refl q))
theorem stF_full {m : Nat} {A f : Nat → Nat → Bool} {R : Spn} (hR : ∀ p q, R p q → p ≤ q) (hA : ∀ p q, p < m → q < m → (A p q = true ↔ R p q)) (hf : ∀ p q, p < m → q < m → (f p q = true ↔ p = q)) : ∀ k n p q, n ≤ 2 ^ k → p < m → q < m → Stp R n p q → stF m A f (k + 1) p q = true
  | 0, n, p, q, hn, hp, hq, h => by
    have : n = 0 ∨ n = 1 := by simp at hn; omega
    rcases this with rfl | rfl
    · exact dbl_mono ((hf p q hp hq).mpr h)
    · obtain ⟨r, h1, h2⟩ := h
      have h2 : r = q := h2
      subst h2
      unfold stF dbl
      rw [Bool.or_eq_true, thenG_t]
      exact .inr ⟨p, hp, ⟨Nat.le_refl _, hR _ _ h1⟩, (hf p p hp hp).mpr rfl, by rw [(hA p r hp hq).mpr h1]; simp⟩
  | k + 1, n, p, q, hn, hp, hq, h => by
    have hn' : n ≤ 2 ^ k + 2 ^ k := by rw [Nat.pow_succ] at hn; omega
    have e : n = min n (2 ^ k) + (n - 2 ^ k) := by omega
    rw [e] at h
    obtain ⟨r, h1, h2⟩ := h.add
    have l1 := Stp.le hR h1
    have l2 := Stp.le hR h2
    have g1 := stF_full hR hA hf k _ p r (by omega) hp (by omega) h1
    have g2 := stF_full hR hA hf k _ r q (by omega) (by omega) hq h2
    unfold stF dbl
    rw [Bool.or_eq_true, thenG_t]
    exact .inr ⟨r, by omega, ⟨l1, l2⟩, g1, by rw [g2]; rfl⟩
theorem star_table {m : Nat} (hm : m ≤ 61) {A f : Nat → Nat → Bool} {R : Spn} (hR : ∀ p q, R p q → p ≤ q) (hA : ∀ p q, p < m → q < m → (A p q = true ↔ R p q)) (hf : ∀ p q, p < m → q < m → (f p q = true ↔ p = q)) : M m (stF m A f 7) = M m (fun p q => dc (StarR R p q)) := M_congr fun p q hp hq => by
  rw [Bool.eq_iff_iff, dc_t]
  refine ⟨stF_sound hA hf 7 p q hp hq, fun h => ?_⟩
  obtain ⟨n, n1, n2⟩ := h.stp hR
  exact stF_full hR hA hf 6 n p q (by have : 2 ^ 6 = 64 := rfl; omega) hp hq n2
theorem l11_b2 {m : Nat} (hm : m ≤ 61) {w : List Int} (hw : w.length + 1 = m) {i : Nat} (F : Nat → Nat → Nat → Bool) (n : TNode) (h0 : 0 ≤ n.a) (h1 : n.a < i) (f : Nat → Nat → Bool) :
    loop (fun s : List Bool × Int => spec_l11Spans.b2 (T i fun j => M m (F j)) n w s.1 s.2) (M m f, 0) = some (M m (stF m (F n.a.toNat) f 7)) := by
  have hW : W ((w.length : Int) + 1) = (m : Int) := by rw [W, W_nat (by omega), hw]
  have h := loop_up (body := fun s : List Bool × Int => spec_l11Spans.b2 (T i fun j => M m (F j)) n w s.1 s.2) 7 (fun k => (M m (stF m (F n.a.toNat) f k), (k : Int))) (M m (stF m (F n.a.toNat) f 7)) (fun k hk => ?_) ?_ 0 (Nat.zero_le _)
  · exact h
  · dsimp only; unfold spec_l11Spans.b2
    have ha : ix (T i fun j => M m (F j)) n.a = some (M m (F n.a.toNat)) := T_ixI (by omega) (by omega)
    rw [if_pos (by omega), ha, Option.bind_some, both_M hm, Option.bind_some, hW, then_eq hm, Option.bind_some, both_M hm, Option.bind_some, W, W_nat (by omega)]
    rfl
  · dsimp only; unfold spec_l11Spans.b2; rw [if_neg (by omega)]
/-- The table of a leaf. -/
def baseG (w : List Int) (n : TNode) (p q : Nat) : Bool := if p = q then (decide (n.kind = 2) || decide (n.kind = 4)) else if n.kind = 3 ∧ q = p + 1 then decide (w.getD p 0 = n.a) else false
theorem l11_b3 {m : Nat} (hm : m ≤ 61) {w : List Int} (hw : w.length + 1 = m) (n : TNode) :
    loop (fun s : List Bool × Int => spec_l11Spans.b3 w n s.1 s.2) (M m (fun _ _ => false), 0) = some (M m (baseG w n)) := by
  have hW : W ((w.length : Int) + 1) = (m : Int) := by rw [W, W_nat (by omega), hw]
  have h := loop_up (body := fun s : List Bool × Int => spec_l11Spans.b3 w n s.1 s.2) m (fun k => (M m (fun p q => if p < k then baseG w n p q else false), (k : Int))) (M m (baseG w n)) (fun k hk => ?_) ?_ 0 (Nat.zero_le _)
  · rw [M_congr (g := fun p q => if p < 0 then baseG w n p q else false) fun p q _ _ => by rw [if_neg (by omega)]]
    exact h
  · dsimp only; unfold spec_l11Spans.b3
    rw [hW, if_pos (by omega), bnd_eq, sq_W hm hk hk, M_ck hk hk, Option.bind_some, bnd_eq, M_set hk, W, W_nat (by omega)]
    by_cases c : n.kind = 3 ∧ k + 1 < m
    · rw [if_pos (by simp only [Bool.and_eq_true, decide_eq_true_eq]; omega), ix_nat (by omega), Option.bind_some]
      have e : W (((k * m + k : Nat) : Int) + 1) = ((k * m + (k + 1) : Nat) : Int) := by
        have h1 := sq_lt hk c.2
        have h2 := sq_le hm
        generalize k * m = x at h1 ⊢
        rw [W, W_nat (by omega)]; omega
      rw [e, M_ck hk c.2, Option.bind_some, M_set c.2]
      rw [M_congr (g := fun p q => if p < k + 1 then baseG w n p q else false) fun p q hp hq => ?_]
      show (if p = k ∧ q = k + 1 then _ else if p = k ∧ q = k then _ else if p < k then _ else _) = _
      by_cases e1 : p = k
      · subst e1
        rw [if_pos (show p < p + 1 by omega)]
        unfold baseG
        by_cases e2 : q = p + 1
        · rw [if_pos ⟨rfl, e2⟩, if_neg (by omega), if_pos ⟨c.1, e2⟩]; rfl
        · rw [if_neg (by omega)]
          by_cases e3 : q = p
          · rw [if_pos ⟨rfl, e3⟩, if_pos e3.symm]
          · rw [if_neg (by omega), if_neg (by omega), if_neg (by omega), if_neg (by omega)]
      · rw [if_neg (by omega), if_neg (by omega)]
        by_cases e2 : p < k
        · rw [if_pos e2, if_pos (by omega)]
        · rw [if_neg e2, if_neg (by omega)]
    · rw [if_neg (by simp only [Bool.and_eq_true, decide_eq_true_eq]; omega)]
      rw [M_congr (g := fun p q => if p < k + 1 then baseG w n p q else false) fun p q hp hq => ?_]
      show (if p = k ∧ q = k then _ else if p < k then _ else _) = _
      by_cases e1 : p = k
      · subst e1
        rw [if_pos (show p < p + 1 by omega)]
        unfold baseG
        by_cases e3 : q = p
        · rw [if_pos ⟨rfl, e3⟩, if_pos e3.symm]
        · rw [if_neg (by omega), if_neg (by omega), if_neg (by omega), if_neg (by omega)]
      · rw [if_neg (by omega)]
        by_cases e2 : p < k
        · rw [if_pos e2, if_pos (by omega)]
        · rw [if_neg e2, if_neg (by omega)]
  · dsimp only; unfold spec_l11Spans.b3
    rw [hW, if_neg (by omega)]
    rw [M_congr (g := baseG w n) fun p q hp hq => by rw [if_pos hp]]
theorem l11_b1 {m : Nat} (hm : m ≤ 61) {w : List Int} (hw : w.length + 1 = m) {i : Nat} (F : Nat → Nat → Nat → Bool) (n : TNode) (h0 : 0 ≤ n.a) (h1 : n.a < i) (h2 : 0 ≤ n.b) (h3 : n.b < i) (f : Nat → Nat → Bool) :
    loop (fun s : List Bool × Int => spec_l11Spans.b1 w (T i fun j => M m (F j)) n s.1 s.2) (M m f, 0) = some (M m fun p q => F n.a.toNat p q || F n.b.toNat p q) := by
  have hW : W ((w.length : Int) + 1) = (m : Int) := by rw [W, W_nat (by omega), hw]
  have hs := sq_le hm
  have hQ : W ((m : Int) * (m : Int)) = ((m * m : Nat) : Int) := by
    rw [show (m : Int) * (m : Int) = ((m * m : Nat) : Int) by push_cast; rfl, W, W_eq (by omega) (by omega)]
  have ha : ix (T i fun j => M m (F j)) n.a = some (M m (F n.a.toNat)) := T_ixI (by omega) (by omega)
  have hb : ix (T i fun j => M m (F j)) n.b = some (M m (F n.b.toNat)) := T_ixI (by omega) (by omega)
  refine T_fill (fun s : List Bool × Int => spec_l11Spans.b1 w (T i fun j => M m (F j)) n s.1 s.2) (m * m) _ (fun i => F n.a.toNat (i / m) (i % m) || F n.b.toNat (i / m) (i % m)) _ (fun k hk => ?_) ?_
  · dsimp only; unfold spec_l11Spans.b1
    rw [hW, hQ, if_pos (by omega), ha, Option.bind_some, hb, M, M, T_ix hk, Option.bind_some, T_ck hk, W, W_nat (by omega)]
    cases F n.a.toNat (k / m) (k % m) with
    | true => rfl
    | false => rw [Bool.not_false, whenO_t, Option.bind_some, whenO_t, T_ix hk]; rfl
  · dsimp only; unfold spec_l11Spans.b1; rw [hW, hQ, if_neg (by omega)]; rfl
theorem l11Spans_eq {e : List TNode} (h : Nodes reP e) (w : List Int) (hw : w.length ≤ 60) : spec_l11Spans e w = some (T e.length fun j => M (w.length + 1) fun p q => dc ((spans w e).getD j noSpn p q)) := by
  generalize hm' : w.length + 1 = m
  have hm : m ≤ 61 := by omega
  have hl := h.2.1
  have hW : W ((w.length : Int) + 1) = (m : Int) := by rw [W, W_nat (by omega), hm']
  have hs := sq_le hm
  have hQ : W ((m : Int) * (m : Int)) = ((m * m : Nat) : Int) := by
    rw [show (m : Int) * (m : Int) = ((m * m : Nat) : Int) by push_cast; rfl, W, W_eq (by omega) (by omega)]
  let F : Nat → Nat → Nat → Bool := fun j p q => dc ((spans w e).getD j noSpn p q)
  have h1 := loop_up (body := fun s : List (List Bool) × Int => spec_l11Spans.b0 e w s.1 s.2) e.length (fun i => (T i fun j => M m (F j), (i : Int))) (T e.length fun j => M m (F j)) (fun i hi => ?_) ?_ 0 (Nat.zero_le _)
  · unfold spec_l11Spans
    have h2 : loop (fun s : List (List Bool) × Int => spec_l11Spans.b0 e w s.1 s.2) ([], 0) = _ := h1
    rw [h2]; rfl
  · dsimp only; unfold spec_l11Spans.b0
    have hp : ∀ j, j < e.length → ∀ p q, (spans w e).getD j noSpn p q → p ≤ q := fun j hj p q hs => (spans_le h j hj p q hs).1
    have hst := spans_step (w := w) h hi
    have hk := reKinds (h.2.2 i hi)
    rw [if_pos (by omega), ix_nat hi, Option.bind_some, hW, hQ, T_mk (by omega), Option.bind_some]
    have hb3 := l11_b3 hm hm' (e.getD i default)
    have hb3' : loop (fun s : List Bool × Int => spec_l11Spans.b3 w (e.getD i default) s.1 s.2) (T (m * m) fun _ => false, 0) = some (M m (baseG w (e.getD i default))) := hb3
    rw [hb3', Option.bind_some]
    have fin : ∀ z, z = M m (F i) → spec_l11Spans.k3 (T i fun j => M m (F j)) (i : Int) z = some (.inl (T (i + 1) fun j => M m (F j), ((i + 1 : Nat) : Int))) := fun z hz => by
      subst hz
      unfold spec_l11Spans.k3 spec_l11Spans.k1
      rw [app_small (by rw [T_len]; simp; omega) (by omega), Option.bind_some, W, W_nat (by omega), T_snoc]
    generalize e.getD i default = n at hk hst
    have FF : ∀ x : Int, 0 ≤ x → x < i → ∀ p q, F x.toNat p q = true ↔ (spans w e).getD x.toNat noSpn p q := fun x _ _ p q => dc_t
    have iff_ : ∀ {g : Nat → Nat → Bool}, (∀ p q, p < m → q < m → (g p q = true ↔ reSpan w n (spans w e) p q)) → M m g = M m (F i) := fun {g} hg => M_congr fun p q hp hq => by
      rw [Bool.eq_iff_iff, hg p q hp hq]
      show _ ↔ dc _ = true
      rw [dc_t, hst]
    unfold spec_l11Spans.k2
    by_cases k6 : n.kind = 6
    · rw [if_pos k6, l11_b1 hm hm' F n (by omega) (by omega) (by omega) (by omega), Option.bind_some]
      refine fin _ (iff_ fun p q hp hq => ?_)
      unfold reSpan
      rw [if_neg (by omega), if_neg (by omega), if_neg (by omega), if_neg (by omega), if_pos k6, Bool.or_eq_true, FF _ (by omega) (by omega), FF _ (by omega) (by omega)]
    rw [if_neg k6]
    have hix : ∀ x : Int, 0 ≤ x → x < i → ix (T i fun j => M m (F j)) x = some (M m (F x.toNat)) := fun x h0 h1 => by
      have := T_ix (f := fun j => M m (F j)) (show x.toNat < i by omega)
      rw [show ((x.toNat : Nat) : Int) = x by omega] at this; exact this
    by_cases k5 : n.kind = 5
    · rw [if_pos k5, hix _ (by omega) (by omega), Option.bind_some, hix _ (by omega) (by omega), Option.bind_some, hW, then_eq hm, Option.bind_some]
      refine fin _ (iff_ fun p q hp' hq => ?_)
      unfold reSpan
      rw [if_neg (by omega), if_neg (by omega), if_neg (by omega), if_pos k5, thenG_t]
      constructor
      · rintro ⟨r, _, _, r3, r4⟩
        exact ⟨r, (FF _ (by omega) (by omega) _ _).mp r3, (FF _ (by omega) (by omega) _ _).mp r4⟩
      · rintro ⟨r, r3, r4⟩
        have l1 := hp n.a.toNat (by omega) _ _ r3
        have l2 := hp n.b.toNat (by omega) _ _ r4
        exact ⟨r, by omega, ⟨l1, l2⟩, (FF _ (by omega) (by omega) _ _).mpr r3, (FF _ (by omega) (by omega) _ _).mpr r4⟩
    rw [if_neg k5]
    by_cases k4 : n.kind = 4
    · rw [if_pos k4, l11_b2 hm hm' F n (by omega) (by omega), Option.bind_some]
      rw [star_table hm (R := (spans w e).getD n.a.toNat noSpn) (fun p q => hp n.a.toNat (by omega) p q) (fun p q _ _ => FF _ (by omega) (by omega) p q) (fun p q _ _ => ?_)]
      · refine fin _ (iff_ fun p q hp' hq => ?_)
        unfold reSpan
        rw [if_neg (by omega), if_neg (by omega), if_pos k4, dc_t]
      · unfold baseG
        by_cases e1 : p = q
        · rw [if_pos e1, k4]; simp [e1]
        · rw [if_neg e1, if_neg (by omega)]; simp [e1]
    rw [if_neg k4]
    refine fin _ (iff_ fun p q hp' hq => ?_)
    unfold reSpan baseG
    by_cases k2 : n.kind = 2
    · rw [if_pos k2]
      by_cases e1 : p = q
      · rw [if_pos e1, k2]; simp [e1]
      · rw [if_neg e1, if_neg (by omega)]; simp [e1]
    rw [if_neg k2]
    by_cases k3 : n.kind = 3
    · rw [if_pos k3]
      by_cases e1 : p = q
      · rw [if_pos e1]; simp [k3]; omega
      · rw [if_neg e1]
        by_cases e2 : q = p + 1
        · rw [if_pos ⟨k3, e2⟩, decide_eq_true_eq]
          exact ⟨fun g => ⟨e2, by omega, g⟩, fun g => g.2.2⟩
        · rw [if_neg (by omega)]; simp [e2]
    · rw [if_neg k3, if_neg k4, if_neg k5, if_neg k6]
      by_cases e1 : p = q
      · rw [if_pos e1]; simp [k2, k4]
      · rw [if_neg e1, if_neg (by omega)]; simp
  · dsimp only; unfold spec_l11Spans.b0; rw [if_neg (by omega)]
theorem specReTakes_eq (e : List TNode) (w : List Int) : spec_ReTakes e w = some (reTakes e w) := by
  unfold spec_ReTakes reTakes
  rw [specReOk_eq, Option.bind_some, bnd_eq]
  by_cases hw : w.length ≤ 60
  · rw [decide_eq_true hw, decide_eq_false (by omega : ¬ (w.length : Int) > 60), Bool.or_false]
    cases h : treeOk reP e with
    | false => rw [Bool.not_false, if_pos rfl]; rfl
    | true =>
      have hn := treeOk_nodes h
      have h1 := hn.1
      have h2 := hn.2.1
      rw [Bool.not_true, if_neg (by simp), l11Spans_eq hn w hw, Option.bind_some, W, W_eq (by omega) (by omega), show ((e.length : Int) - 1) = ((e.length - 1 : Nat) : Int) by omega, T_ix (by omega), Option.bind_some]
      have := M_ix (m := w.length + 1) (p := 0) (q := w.length) (f := fun p q => dc ((spans w e).getD (e.length - 1) noSpn p q)) (by omega) (by omega)
      rw [Nat.zero_mul, Nat.zero_add] at this
      rw [this, Option.bind_some]; rfl
  · rw [decide_eq_false hw, decide_eq_true (by omega : (w.length : Int) > 60), Bool.or_true, if_pos rfl, Bool.and_false]; rfl
end Go.Proofs.Ytmmgpcnngaekoaa
