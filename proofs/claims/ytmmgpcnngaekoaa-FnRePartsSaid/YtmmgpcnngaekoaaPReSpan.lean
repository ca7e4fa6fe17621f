/- Where words of a regex end: the program's sets of places hold just these. -/
import Derived.Test.YtmmgpcnngaekoaaDReParts
import Derived.Test.YtmmgpcnngaekoaaQ1
import Derived.Test.YtmmgpcnngaekoaaPTree2
import Derived.Test.YtmmgpcnngaekoaaPReOkN
namespace Go.Proofs.Ytmmgpcnngaekoaa
open Go Go.RowKit E
set_option linter.unusedVariables false

inductive StarR (r : Nat → Nat → Prop) : Nat → Nat → Prop where
  | refl (p : Nat) : StarR r p p
  | step {p q s : Nat} : r p q → StarR r q s → StarR r p s
theorem StarR.snoc {r : Nat → Nat → Prop} {p q s : Nat} (h : StarR r p q) (k : r q s) : StarR r p s := by
  induction h with
  | refl p => exact .step k (.refl _)
  | step h1 _ ih => exact .step h1 (ih k)
theorem StarR.closed {r : Nat → Nat → Prop} {S : Nat → Prop} (h : ∀ a b, S a → r a b → S b) {p q : Nat} (k : StarR r p q) : S p → S q := by
  induction k with
  | refl p => exact id
  | step h1 _ ih => exact fun hp => ih (h _ _ hp h1)
abbrev Spn := Nat → Nat → Prop
def noSpn : Spn := fun _ _ => False
/-- From where to where a word of a node stands. -/
def reSpan (w : List Int) (n : TNode) (S : List Spn) : Spn := fun p q =>
  if n.kind = 2 then p = q
  else if n.kind = 3 then q = p + 1 ∧ p < w.length ∧ w.getD p 0 = n.a
  else if n.kind = 4 then StarR (S.getD n.a.toNat noSpn) p q
  else if n.kind = 5 then ∃ r, S.getD n.a.toNat noSpn p r ∧ S.getD n.b.toNat noSpn r q
  else if n.kind = 6 then S.getD n.a.toNat noSpn p q ∨ S.getD n.b.toNat noSpn p q
  else False
def spans (w : List Int) (e : List TNode) : List Spn := accum (reSpan w) [] e
theorem reSpan_congr {w : List Int} {i : Nat} {n : TNode} {ts us : List Spn} (hn : NodeAt reP i n) (h : ∀ x : Int, 0 ≤ x → x < i → ts.getD x.toNat noSpn = us.getD x.toNat noSpn) : reSpan w n ts = reSpan w n us := by
  have hk := reKinds hn
  funext p q
  unfold reSpan
  by_cases k2 : n.kind = 2
  · rw [if_pos k2, if_pos k2]
  rw [if_neg k2, if_neg k2]
  by_cases k3 : n.kind = 3
  · rw [if_pos k3, if_pos k3]
  rw [if_neg k3, if_neg k3]
  by_cases k1 : n.kind = 1
  · rw [if_neg (by omega), if_neg (by omega), if_neg (by omega), if_neg (by omega), if_neg (by omega), if_neg (by omega)]
  rw [h n.a (by omega) (by omega)]
  by_cases k4 : n.kind = 4
  · rw [if_pos k4, if_pos k4]
  · rw [h n.b (by omega) (by omega)]
theorem spans_step {w : List Int} {e : List TNode} (h : Nodes reP e) {i : Nat} (hi : i < e.length) : (spans w e).getD i noSpn = reSpan w (e.getD i default) (spans w e) := by
  have h1 := accum_get (reSpan w) noSpn e hi
  show (accum (reSpan w) [] e).getD i noSpn = _
  rw [h1]
  exact reSpan_congr (h.2.2 i hi) fun x h0 h1 => accum_take (reSpan w) noSpn e (by omega) (by omega)
/-- Words go on from left to right, and not past the end. -/
theorem spans_le {w : List Int} {e : List TNode} (h : Nodes reP e) : ∀ i, i < e.length → ∀ p q, (spans w e).getD i noSpn p q → p ≤ q ∧ (p ≤ w.length → q ≤ w.length) := by
  intro i
  induction i using Nat.strongRecOn with
  | _ i ih =>
    intro hi p q hs
    rw [spans_step h hi] at hs
    have hk := reKinds (h.2.2 i hi)
    generalize e.getD i default = n at hs hk
    unfold reSpan at hs
    split at hs
    · omega
    split at hs
    · omega
    split at hs
    · have ha := ih n.a.toNat (by omega) (by omega)
      clear ih
      induction hs with
      | refl p => exact ⟨by omega, id⟩
      | step h1 _ ih2 => have := ha _ _ h1; exact ⟨by omega, fun k => ih2.2 (this.2 k)⟩
    split at hs
    · obtain ⟨r, h1, h2⟩ := hs
      have a1 := ih n.a.toNat (by omega) (by omega) _ _ h1
      have a2 := ih n.b.toNat (by omega) (by omega) _ _ h2
      exact ⟨by omega, fun k => a2.2 (a1.2 k)⟩
    split at hs
    · rcases hs with h1 | h1
      · exact ih n.a.toNat (by omega) (by omega) _ _ h1
      · exact ih n.b.toNat (by omega) (by omega) _ _ h1
    · exact hs.elim

/-- The places behind the letters of a kind. -/
def behindL (w : List Int) (a : Int) (x : Nat) : Nat → Nat
  | 0 => 0
  | k + 1 => if w.getD k 0 = a ∧ x.testBit k = true then behindL w a x k ||| 2 ^ (k + 1) else behindL w a x k
theorem behindL_succ (w : List Int) (a : Int) (x k : Nat) : behindL w a x (k + 1) = if w.getD k 0 = a ∧ x.testBit k = true then behindL w a x k ||| 2 ^ (k + 1) else behindL w a x k := rfl
theorem behindL_bit (w : List Int) (a : Int) (x : Nat) : ∀ k q, (behindL w a x k).testBit q = true ↔ ∃ p, p < k ∧ q = p + 1 ∧ w.getD p 0 = a ∧ x.testBit p = true
  | 0, q => by simp [behindL]
  | k + 1, q => by
    unfold behindL
    have ih := behindL_bit w a x k q
    split
    · rename_i h
      rw [Nat.testBit_or, Bool.or_eq_true, ih, Nat.testBit_two_pow, decide_eq_true_eq]
      constructor
      · rintro (⟨p, h1, h2⟩ | h1)
        · exact ⟨p, by omega, h2⟩
        · exact ⟨k, by omega, h1.symm, h.1, h.2⟩
      · rintro ⟨p, h1, h2, h3⟩
        by_cases e : p = k
        · right; omega
        · exact .inl ⟨p, by omega, h2, h3⟩
    · rename_i h
      rw [ih]
      constructor
      · rintro ⟨p, h1, h2⟩; exact ⟨p, by omega, h2⟩
      · rintro ⟨p, h1, h2, h3⟩
        by_cases e : p = k
        · subst e; exact absurd h3 h
        · exact ⟨p, by omega, h2, h3⟩
theorem behindL_lt (w : List Int) (a : Int) (x : Nat) : ∀ k, behindL w a x k < 2 ^ (k + 1)
  | 0 => by simp [behindL]
  | k + 1 => by
    have ih := behindL_lt w a x k
    have h1 : behindL w a x k < 2 ^ (k + 1 + 1) := Nat.lt_of_lt_of_le ih (Nat.pow_le_pow_right (by omega) (by omega))
    unfold behindL
    split
    · exact or_lt h1 (Nat.pow_lt_pow_right (by omega) (by omega))
    · exact h1
theorem lt64 {x n : Nat} (hn : n ≤ 60) (h : x < 2 ^ (n + 1)) : x < 18446744073709551616 := Nat.lt_of_lt_of_le h (by
  have : 2 ^ (n + 1) ≤ 2 ^ 61 := Nat.pow_le_pow_right (by omega) (by omega)
  exact Nat.le_trans this (by decide))
theorem ends_letter (w : List Int) (hw : w.length ≤ 60) (n : TNode) (x : Nat) (hx : x < 2 ^ (w.length + 1)) :
    loop (fun s : Int × Int => impl_ends.b0 w n (x : Int) s.1 s.2) (0, 0) = some ((behindL w n.a x w.length : Nat) : Int) := by
  have h1 := loop_up (body := fun s : Int × Int => impl_ends.b0 w n (x : Int) s.1 s.2) w.length (fun k => (((behindL w n.a x k : Nat) : Int), (k : Int))) ((behindL w n.a x w.length : Nat) : Int) (fun k hk => ?_) ?_ 0 (Nat.zero_le _)
  · exact h1
  · (try dsimp only); unfold impl_ends.b0
    rw [if_pos (by omega), ix_nat hk, Option.bind_some, u64_nat (by omega), W, W_nat (by omega), bit_u (lt64 hw hx) (by omega), u64_nat (by omega), shl1_u (by omega)]
    simp only [bnd]
    have hb := behindL_lt w n.a x k
    have : (2 : Nat) ^ (k + 1) < 18446744073709551616 := Nat.lt_of_lt_of_le (Nat.pow_lt_pow_right (by omega) (show k + 1 < 61 by omega)) (by decide)
    rw [bOr_u (lt64 (by omega) hb) this]
    show _ = some (Sum.inl (((behindL w n.a x (k + 1) : Nat) : Int), ((k + 1 : Nat) : Int)))
    rw [behindL_succ]
    by_cases h : w.getD k 0 = n.a ∧ x.testBit k = true
    · rw [if_pos h]
      show (if (decide (w.getD k 0 = n.a) && x.testBit k) = true then _ else _) = _
      rw [if_pos (by rw [Bool.and_eq_true, decide_eq_true_eq]; exact h)]
    · rw [if_neg h]
      show (if (decide (w.getD k 0 = n.a) && x.testBit k) = true then _ else _) = _
      rw [if_neg (by rw [Bool.and_eq_true, decide_eq_true_eq]; exact h)]
  · (try dsimp only); unfold impl_ends.b0; rw [if_neg (by omega)]
/-- The program's sets of places. -/
theorem ends_eq {e : List TNode} (h : Nodes reP e) (w : List Int) (hw : w.length ≤ 60) : ∀ (i K : Nat), i < e.length → i < K → ∀ x : Nat, x < 2 ^ (w.length + 1) →
    ∃ y : Nat, impl_ends K e (i : Int) w (x : Int) = some (y : Int) ∧ y < 2 ^ (w.length + 1) ∧ ∀ q, y.testBit q = true ↔ ∃ p, x.testBit p = true ∧ (spans w e).getD i noSpn p q := by
  intro i
  induction i using Nat.strongRecOn with
  | _ i ih =>
    intro K hi hK x hx
    obtain ⟨K, rfl⟩ : ∃ k, K = k + 1 := ⟨K - 1, by omega⟩
    rw [spans_step h hi]
    have hk := reKinds (h.2.2 i hi)
    show ∃ y : Nat, impl_ends.body (impl_ends K) e (i : Int) w (x : Int) = _ ∧ _
    unfold impl_ends.body
    rw [ix_nat hi, Option.bind_some]
    generalize e.getD i default = n at hk
    have ra : ∀ z : Int, 0 ≤ z → z < i → ∀ x : Nat, x < 2 ^ (w.length + 1) → ∃ y : Nat, impl_ends K e z w (x : Int) = some (y : Int) ∧ y < 2 ^ (w.length + 1) ∧ ∀ q, y.testBit q = true ↔ ∃ p, x.testBit p = true ∧ (spans w e).getD z.toNat noSpn p q := fun z h0 h1 x hx => by
      have := ih z.toNat (by omega) K (by omega) (by omega) x hx
      rw [show ((z.toNat : Nat) : Int) = z by omega] at this; exact this
    unfold reSpan
    by_cases k2 : n.kind = 2
    · simp only [if_pos k2]
      exact ⟨x, rfl, hx, fun q => ⟨fun g => ⟨q, g, rfl⟩, fun ⟨p, g, e⟩ => by subst e; exact g⟩⟩
    simp only [if_neg k2]
    by_cases k3 : n.kind = 3
    · simp only [if_pos k3]
      rw [ends_letter w hw n x hx, Option.bind_some]
      refine ⟨_, rfl, behindL_lt _ _ _ _, fun q => ?_⟩
      rw [behindL_bit]
      constructor
      · rintro ⟨p, g1, g2, g3, g4⟩; exact ⟨p, g4, g2, g1, g3⟩
      · rintro ⟨p, g4, g2, g1, g3⟩; exact ⟨p, g1, g2, g3, g4⟩
    simp only [if_neg k3]
    by_cases k4 : n.kind = 4
    · simp only [if_pos k4]
      generalize hR : (spans w e).getD n.a.toNat noSpn = R
      have ha := ra n.a (by omega) (by omega)
      rw [hR] at ha
      obtain ⟨r, hr, y, rfl, h1, h2, h3⟩ := loop_inv (body := fun s : Int => impl_ends.b1 (impl_ends K) e n w s) (fun s => ∃ y : Nat, s = (y : Int) ∧ y < 2 ^ (w.length + 1) ∧ (∀ q, x.testBit q = true → y.testBit q = true) ∧ ∀ q, y.testBit q = true → ∃ p, x.testBit p = true ∧ StarR R p q)
        (fun s => w.length + 1 - card (w.length + 1) s.toNat) (fun s => ∃ y : Nat, s = (y : Int) ∧ y < 2 ^ (w.length + 1) ∧ (∀ q, y.testBit q = true ↔ ∃ p, x.testBit p = true ∧ StarR R p q) ∧ True) (fun s ⟨y, hy, g1, g2, g3⟩ => by
          subst hy
          obtain ⟨z, z1, z2, z3⟩ := ha y g1
          have hb : impl_ends.b1 (impl_ends K) e n w (y : Int) = if ((y ||| z : Nat) : Int) = (y : Int) then some (.inr (y : Int)) else some (.inl ((y ||| z : Nat) : Int)) := by
            unfold impl_ends.b1
            rw [z1, Option.bind_some, bOr_u (lt64 hw g1) (lt64 hw z2)]
          by_cases hc : y ||| z = y
          · refine .inl ⟨(y : Int), by rw [hb, if_pos (by rw [hc])], y, rfl, g1, fun q => ⟨g3 q, fun ⟨p, p1, p2⟩ => ?_⟩, trivial⟩
            have hp := g2 p p1
            refine StarR.closed (S := fun q => y.testBit q = true) (fun a b ka kb => ?_) p2 hp
            show y.testBit b = true
            rw [← hc, Nat.testBit_or, (z3 _).mpr ⟨_, ka, kb⟩]; simp
          · refine .inr ⟨((y ||| z : Nat) : Int), by rw [hb, if_neg (by omega)], ⟨y ||| z, rfl, or_lt g1 z2, fun q hq => by rw [Nat.testBit_or, g2 q hq]; rfl, fun q hq => ?_⟩, ?_⟩
            · rw [Nat.testBit_or, Bool.or_eq_true] at hq
              rcases hq with hq | hq
              · exact g3 q hq
              · obtain ⟨p, p1, p2⟩ := (z3 q).mp hq
                obtain ⟨p', q1, q2⟩ := g3 p p1
                exact ⟨p', q1, q2.snoc p2⟩
            · simp only [Int.toNat_natCast]
              have := card_or g1 z2 hc
              have := card_le (w.length + 1) (y ||| z)
              omega) (s := (x : Int)) ⟨x, rfl, hx, fun q hq => hq, fun q hq => ⟨q, hq, .refl q⟩⟩
      rw [hr, Option.bind_some]
      exact ⟨y, rfl, h1, h2⟩
    simp only [if_neg k4]
    by_cases k5 : n.kind = 5
    · simp only [if_pos k5]
      obtain ⟨y, y1, y2, y3⟩ := ra n.a (by omega) (by omega) x hx
      obtain ⟨z, z1, z2, z3⟩ := ra n.b (by omega) (by omega) y y2
      rw [y1, Option.bind_some, z1]
      refine ⟨z, rfl, z2, fun q => ?_⟩
      rw [z3]
      constructor
      · rintro ⟨r, r1, r2⟩
        obtain ⟨p, p1, p2⟩ := (y3 r).mp r1
        exact ⟨p, p1, r, p2, r2⟩
      · rintro ⟨p, p1, r, p2, r2⟩
        exact ⟨r, (y3 r).mpr ⟨p, p1, p2⟩, r2⟩
    simp only [if_neg k5]
    by_cases k6 : n.kind = 6
    · simp only [if_pos k6]
      obtain ⟨y, y1, y2, y3⟩ := ra n.a (by omega) (by omega) x hx
      obtain ⟨z, z1, z2, z3⟩ := ra n.b (by omega) (by omega) x hx
      rw [y1, Option.bind_some, z1, Option.bind_some, bOr_u (lt64 hw y2) (lt64 hw z2)]
      refine ⟨y ||| z, rfl, or_lt y2 z2, fun q => ?_⟩
      rw [Nat.testBit_or, Bool.or_eq_true, y3, z3]
      constructor
      · rintro (⟨p, p1, p2⟩ | ⟨p, p1, p2⟩)
        · exact ⟨p, p1, .inl p2⟩
        · exact ⟨p, p1, .inr p2⟩
      · rintro ⟨p, p1, p2 | p2⟩
        · exact .inl ⟨p, p1, p2⟩
        · exact .inr ⟨p, p1, p2⟩
    simp only [if_neg k6]
    exact ⟨0, rfl, Nat.two_pow_pos _, fun q => by simp⟩
noncomputable def dc (p : Prop) : Bool := @decide p (Classical.propDecidable p)
theorem dc_t {p : Prop} : dc p = true ↔ p := @decide_eq_true_iff _ (Classical.propDecidable _)
noncomputable def reTakes (e : List TNode) (w : List Int) : Bool := treeOk reP e && decide (w.length ≤ 60) && dc ((spans w e).getD (e.length - 1) noSpn 0 w.length)
theorem implReTakes_eq (e : List TNode) (w : List Int) : impl_ReTakes 40 e w = some (reTakes e w) := by
  unfold impl_ReTakes reTakes
  simp only [bnd, implReOk_eq]
  by_cases hw : w.length ≤ 60
  · have hc : decide ((w.length : Int) > 60) = false := by rw [decide_eq_false_iff_not]; omega
    rw [hc, Bool.not_false, whenO_t, Option.bind_some, Bool.false_or]
    by_cases h : treeOk reP e = true
    · have hn := treeOk_nodes h
      have h1 := hn.1
      have h2 := hn.2.1
      obtain ⟨y, y1, y2, y3⟩ := ends_eq hn w hw (e.length - 1) 40 (by omega) (by omega) 1 (by have : 2 ^ 1 ≤ 2 ^ (w.length + 1) := Nat.pow_le_pow_right (by omega) (by omega); omega)
      rw [if_neg (by rw [h]; simp), W, W_eq (by omega) (by omega), show ((e.length : Int) - 1) = ((e.length - 1 : Nat) : Int) by omega, show (1 : Int) = ((1 : Nat) : Int) from rfl, y1, Option.bind_some, u64_nat (by omega), show ((1 : Nat) : Int) = 1 from rfl, bit_u (lt64 hw y2) (by omega), h, decide_eq_true hw]
      simp only [Bool.true_and, Option.some.injEq]
      rw [Bool.eq_iff_iff, y3, dc_t]
      constructor
      · rintro ⟨p, p1, p2⟩
        have : p = 0 := by
          rw [show (1 : Nat) = 2 ^ 0 from rfl, Nat.testBit_two_pow, decide_eq_true_eq] at p1; exact p1.symm
        subst this; exact p2
      · intro g; exact ⟨0, rfl, g⟩
    · simp only [Bool.not_eq_true] at h
      rw [h]; simp
  · have hc : decide ((w.length : Int) > 60) = true := by rw [decide_eq_true_eq]; omega
    rw [hc, Bool.not_true, whenO_f, Option.bind_some, Bool.true_or, if_pos rfl, decide_eq_false hw]; simp

end Go.Proofs.Ytmmgpcnngaekoaa
