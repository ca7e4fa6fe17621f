/- Tables and square tables of truth values. -/
import Derived.Test.YtmmgpcnngaekoaaDReParts
import Derived.Test.YtmmgpcnngaekoaaQ0
namespace Go.Proofs.Ytmmgpcnngaekoaa
open Go Go.RowKit E
set_option linter.unusedVariables false

def T {α : Type} (n : Nat) (f : Nat → α) : List α := (List.range n).map f
theorem T_len {α : Type} {n : Nat} {f : Nat → α} : (T n f).length = n := by simp [T]
theorem T_get {α : Type} {n k : Nat} {f : Nat → α} (h : k < n) (d : α) : (T n f).getD k d = f k := by simp [T, h]
theorem T_ix {α : Type} [Inhabited α] {n k : Nat} {f : Nat → α} (h : k < n) : ix (T n f) (k : Int) = some (f k) := by
  rw [ix_nat (by rw [T_len]; exact h), T_get h]
theorem T_ixI {α : Type} [Inhabited α] {n : Nat} {x : Int} {f : Nat → α} (h0 : 0 ≤ x) (h : x < n) : ix (T n f) x = some (f x.toNat) := by
  have := T_ix (f := f) (show x.toNat < n by omega)
  rw [show ((x.toNat : Nat) : Int) = x by omega] at this; exact this
theorem T_ck {α : Type} {n k : Nat} {f : Nat → α} (h : k < n) : ck (k : Int) (T n f).length = some k := ck_nat (by rw [T_len]; exact h)
theorem T_congr {α : Type} {n : Nat} {f g : Nat → α} (h : ∀ i, i < n → f i = g i) : T n f = T n g := List.map_congr_left fun i hi => h i (List.mem_range.mp hi)
theorem T_set {α : Type} {n k : Nat} {f : Nat → α} {v : α} : (T n f).set k v = T n (fun i => if i = k then v else f i) := by
  apply List.ext_getElem
  · simp [T]
  · intro i h1 h2
    have hi : i < n := by simpa [T] using h2
    rw [List.getElem_set]
    simp only [T, List.getElem_map, List.getElem_range]
    by_cases e : k = i
    · rw [if_pos e, if_pos e.symm]
    · rw [if_neg e, if_neg (fun x => e x.symm)]
theorem T_mk {α : Type} {y n : Nat} {z : α} (h : (y : Int) * (n : Int) ≤ 281474976710656) : mk y z (n : Int) = some (T n fun _ => z) := by
  rw [mk_ok (by omega) h, Int.toNat_natCast, show T n (fun _ => z) = List.replicate n z by simp [T, List.map_const']]
theorem T_snoc {α : Type} {n : Nat} {f : Nat → α} : T (n + 1) f = T n f ++ [f n] := by simp [T, List.range_succ]
/-- A table filled from the left. -/
theorem T_fill {α ρ : Type} (body : List α × Int → Option ((List α × Int) ⊕ ρ)) (n : Nat) (f g : Nat → α) (r : ρ) (go : ∀ k, k < n → body (T n (fun i => if i < k then g i else f i), (k : Int)) = some (.inl ((T n (fun i => if i < k then g i else f i)).set k (g k), ((k + 1 : Nat) : Int)))) (fin : body (T n g, (n : Int)) = some (.inr r)) : loop body (T n f, 0) = some r := by
  have h := loop_up (body := body) n (fun k => (T n (fun i => if i < k then g i else f i), (k : Int))) r (fun k hk => ?_) ?_ 0 (Nat.zero_le _)
  · have e : T n (fun i => if i < 0 then g i else f i) = T n f := T_congr fun i _ => by rw [if_neg (by omega)]
    rw [e] at h; exact h
  · rw [go k hk, T_set]
    have e : T n (fun i => if i = k then g k else if i < k then g i else f i) = T n (fun i => if i < k + 1 then g i else f i) := T_congr fun i _ => by
      by_cases e1 : i = k
      · subst e1; rw [if_pos rfl, if_pos (by omega)]
      · rw [if_neg e1]
        by_cases e2 : i < k
        · rw [if_pos e2, if_pos (by omega)]
        · rw [if_neg e2, if_neg (by omega)]
    rw [e]
  · have e : T n (fun i => if i < n then g i else f i) = T n g := T_congr fun i hi => by rw [if_pos hi]
    rw [e]; exact fin

/-- A square table. -/
def M {α : Type} (m : Nat) (f : Nat → Nat → α) : List α := T (m * m) fun i => f (i / m) (i % m)
theorem sq_lt {m p q : Nat} (hp : p < m) (hq : q < m) : p * m + q < m * m := by
  have : (p + 1) * m ≤ m * m := Nat.mul_le_mul_right m (by omega)
  rw [Nat.add_mul] at this; omega
theorem sq_le {m : Nat} (hm : m ≤ 61) : m * m ≤ 3721 := Nat.mul_le_mul hm hm
theorem sq_div {m p q : Nat} (hq : q < m) : (p * m + q) / m = p := by
  rw [Nat.mul_comm, Nat.mul_add_div (by omega), Nat.div_eq_of_lt hq, Nat.add_zero]
theorem sq_mod {m p q : Nat} (hq : q < m) : (p * m + q) % m = q := by
  rw [Nat.mul_comm, Nat.mul_add_mod, Nat.mod_eq_of_lt hq]
theorem sq_W {m p q : Nat} (hm : m ≤ 61) (hp : p < m) (hq : q < m) : W (W ((p : Int) * (m : Int)) + (q : Int)) = ((p * m + q : Nat) : Int) := by
  have h1 := sq_lt hp hq
  have h2 := sq_le hm
  have e : (p : Int) * (m : Int) = ((p * m : Nat) : Int) := by push_cast; rfl
  rw [e]; clear e
  generalize p * m = x at h1 ⊢
  unfold W; rw [W_eq (a := (x : Int)) (by omega) (by omega), W_eq (by omega) (by omega)]; omega
theorem M_len {α : Type} {m : Nat} {f : Nat → Nat → α} : (M m f).length = m * m := T_len
theorem M_ix {α : Type} [Inhabited α] {m p q : Nat} {f : Nat → Nat → α} (hp : p < m) (hq : q < m) : ix (M m f) ((p * m + q : Nat) : Int) = some (f p q) := by
  rw [M, T_ix (sq_lt hp hq), sq_div hq, sq_mod hq]
theorem M_ck {α : Type} {m p q : Nat} {f : Nat → Nat → α} (hp : p < m) (hq : q < m) : ck ((p * m + q : Nat) : Int) (M m f).length = some (p * m + q) := T_ck (sq_lt hp hq)
theorem sq_ind {m i : Nat} (hi : i < m * m) : i / m < m ∧ i % m < m ∧ i = i / m * m + i % m := by
  have hm : 0 < m := by
    rcases Nat.eq_zero_or_pos m with h | h
    · subst h; simp at hi
    · exact h
  exact ⟨(Nat.div_lt_iff_lt_mul hm).mpr hi, Nat.mod_lt _ hm, by rw [Nat.mul_comm]; exact (Nat.div_add_mod i m).symm⟩
theorem M_congr {α : Type} {m : Nat} {f g : Nat → Nat → α} (h : ∀ p q, p < m → q < m → f p q = g p q) : M m f = M m g := T_congr fun i hi => by
  obtain ⟨h1, h2, _⟩ := sq_ind hi; exact h _ _ h1 h2
theorem M_set {α : Type} {m p q : Nat} {f : Nat → Nat → α} {v : α} (hq : q < m) : (M m f).set (p * m + q) v = M m (fun p' q' => if p' = p ∧ q' = q then v else f p' q') := by
  unfold M
  rw [T_set]
  refine T_congr fun i hi => ?_
  obtain ⟨h1, h2, h3⟩ := sq_ind hi
  by_cases e : i = p * m + q
  · rw [if_pos e]; show v = if i / m = p ∧ i % m = q then v else f (i / m) (i % m); rw [if_pos ⟨by rw [e, sq_div hq], by rw [e, sq_mod hq]⟩]
  · rw [if_neg e]; show _ = if i / m = p ∧ i % m = q then v else f (i / m) (i % m); rw [if_neg (fun k => e (by rw [h3, k.1, k.2]))]

-- the program's own tables
theorem both_T {n : Nat} (hn : n ≤ 4000) (f g : Nat → Bool) : spec_l11Both (T n f) (T n g) = some (T n fun i => f i || g i) := by
  unfold spec_l11Both
  rw [T_len, T_mk (by omega), Option.bind_some]
  have h := T_fill (fun s : List Bool × Int => spec_l11Both.b0 (T n f) (T n g) s.1 s.2) n (fun _ => false) (fun i => f i || g i) (T n fun i => f i || g i) (fun k hk => ?_) ?_
  · rw [h, Option.bind_some]; rfl
  · dsimp only; unfold spec_l11Both.b0
    rw [T_len, if_pos (by omega), T_ix hk, Option.bind_some, T_ix hk, T_ck hk, W, W_nat (by omega)]
    cases f k with
    | true => rw [Bool.not_true, whenO_f]; rfl
    | false => rw [Bool.not_false, whenO_t]; rfl
  · dsimp only; unfold spec_l11Both.b0; rw [T_len, if_neg (by omega)]
theorem both_M {m : Nat} (hm : m ≤ 61) (f g : Nat → Nat → Bool) : spec_l11Both (M m f) (M m g) = some (M m fun p q => f p q || g p q) := both_T (by have := sq_le hm; omega) _ _

noncomputable def thenG (m : Nat) (a b : Nat → Nat → Bool) (D : Nat → Nat → Nat → Prop) (p r : Nat) : Bool := @decide (∃ q, q < m ∧ D p q r ∧ a p q = true ∧ b q r = true) (Classical.propDecidable _)
theorem thenG_t {m : Nat} {a b : Nat → Nat → Bool} {D : Nat → Nat → Nat → Prop} {p r : Nat} : thenG m a b D p r = true ↔ ∃ q, q < m ∧ D p q r ∧ a p q = true ∧ b q r = true := @decide_eq_true_iff _ (Classical.propDecidable _)
theorem thenG_congr {m : Nat} {a b : Nat → Nat → Bool} {D E : Nat → Nat → Nat → Prop} (h : ∀ p q r, p < m → q < m → r < m → a p q = true → b q r = true → (D p q r ↔ E p q r)) : M m (thenG m a b D) = M m (thenG m a b E) := M_congr fun p r hp hr => by
  rw [Bool.eq_iff_iff, thenG_t, thenG_t]
  refine ⟨?_, ?_⟩
  · rintro ⟨q, q1, q2, q3, q4⟩; exact ⟨q, q1, (h p q r hp q1 hr q3 q4).mp q2, q3, q4⟩
  · rintro ⟨q, q1, q2, q3, q4⟩; exact ⟨q, q1, (h p q r hp q1 hr q3 q4).mpr q2, q3, q4⟩
theorem loop_from {σ ρ : Type} {body : σ → Option (σ ⊕ ρ)} (a n : Nat) (st : Nat → σ) (r : ρ) (ha : a ≤ n) (go : ∀ k, a ≤ k → k < n → body (st k) = some (.inl (st (k + 1)))) (fin : body (st n) = some (.inr r)) : loop body (st a) = some r := by
  have key : ∀ d k, a ≤ k → k + d = n → loop body (st k) = some r := by
    intro d
    induction d with
    | zero => intro k _ h; obtain rfl : k = n := by omega
              exact loop_end fin
    | succ d ih => intro k h0 h; rw [loop_go (go k h0 (by omega))]; exact ih (k + 1) (by omega) (by omega)
  exact key (n - a) a (Nat.le_refl _) (by omega)
theorem then_b2 {m P Q : Nat} (hm : m ≤ 61) (a b : Nat → Nat → Bool) (hP : P < m) (hQ : Q < m) (hPQ : P ≤ Q) :
    loop (fun s : List Bool × Int => spec_l11Then.b2 (m : Int) (M m a) (P : Int) (Q : Int) (M m b) s.1 s.2) (M m (thenG m a b fun p q r => (p ≤ q ∧ q ≤ r) ∧ (p < P ∨ p = P ∧ q < Q)), (Q : Int)) = some (M m (thenG m a b fun p q r => (p ≤ q ∧ q ≤ r) ∧ (p < P ∨ p = P ∧ q < Q + 1))) := by
  cases hA : a P Q with
  | false =>
    refine loop_end ?_
    dsimp only; unfold spec_l11Then.b2
    rw [bnd_eq, decide_eq_true (by omega : (Q : Int) < m), whenO_t, sq_W hm hP hQ, M_ix hP hQ, Option.bind_some, hA]
    show some (Sum.inr _) = _
    rw [thenG_congr (E := fun p q r => (p ≤ q ∧ q ≤ r) ∧ (p < P ∨ p = P ∧ q < Q + 1)) fun p q r _ _ _ h1 h2 => ?_]
    constructor
    · rintro ⟨o, h⟩; exact ⟨o, by omega⟩
    · rintro ⟨o, h⟩
      refine ⟨o, ?_⟩
      rcases h with h | h
      · exact .inl h
      · by_cases e : q = Q
        · rw [h.1, e, hA] at h1; cases h1
        · omega
  | true =>
    have h := loop_from (body := fun s : List Bool × Int => spec_l11Then.b2 (m : Int) (M m a) (P : Int) (Q : Int) (M m b) s.1 s.2) Q m (fun R => (M m (thenG m a b fun p q r => (p ≤ q ∧ q ≤ r) ∧ (p < P ∨ p = P ∧ (q < Q ∨ q = Q ∧ r < R))), (R : Int))) (M m (thenG m a b fun p q r => (p ≤ q ∧ q ≤ r) ∧ (p < P ∨ p = P ∧ q < Q + 1))) (by omega) (fun R hQR hR => ?_) ?_
    · rw [thenG_congr (E := fun p q r => (p ≤ q ∧ q ≤ r) ∧ (p < P ∨ p = P ∧ (q < Q ∨ q = Q ∧ r < Q))) fun p q r _ _ _ _ _ => by omega]
      exact h
    · dsimp only; unfold spec_l11Then.b2
      rw [bnd_eq, decide_eq_true (by omega : (R : Int) < m), whenO_t, sq_W hm hP hQ, M_ix hP hQ, Option.bind_some, hA, Bool.and_self, if_pos rfl, sq_W hm hQ hR, M_ix hQ hR, Option.bind_some]
      cases hB : b Q R with
      | true =>
        rw [if_pos rfl, sq_W hm hP hR, M_ck hP hR, Option.bind_some, M_set hR, W, W_nat (by omega)]
        have e : M m (fun p' q' => if p' = P ∧ q' = R then true else thenG m a b (fun p q r => (p ≤ q ∧ q ≤ r) ∧ (p < P ∨ p = P ∧ (q < Q ∨ q = Q ∧ r < R))) p' q') = M m (thenG m a b fun p q r => (p ≤ q ∧ q ≤ r) ∧ (p < P ∨ p = P ∧ (q < Q ∨ q = Q ∧ r < R + 1))) := M_congr fun p r hp hr => by
          by_cases c : p = P ∧ r = R
          · rw [if_pos c]; symm; rw [thenG_t]
            exact ⟨Q, hQ, by omega, by rw [c.1]; exact hA, by rw [c.2]; exact hB⟩
          · rw [if_neg c, Bool.eq_iff_iff, thenG_t, thenG_t]
            refine ⟨?_, ?_⟩
            · rintro ⟨q, q1, q2, q3⟩; exact ⟨q, q1, by omega, q3⟩
            · rintro ⟨q, q1, q2, q3⟩; exact ⟨q, q1, by omega, q3⟩
        rw [e]
      | false =>
        rw [if_neg (by simp), W, W_nat (by omega)]
        rw [thenG_congr (E := fun p q r => (p ≤ q ∧ q ≤ r) ∧ (p < P ∨ p = P ∧ (q < Q ∨ q = Q ∧ r < R + 1))) fun p q r _ _ _ h1 h2 => ?_]
        constructor
        · rintro h; omega
        · rintro ⟨o, h⟩
          refine ⟨o, ?_⟩
          rcases h with h | h
          · exact .inl h
          · by_cases e : q = Q ∧ r = R
            · rw [e.1, e.2, hB] at h2; cases h2
            · omega
    · dsimp only; unfold spec_l11Then.b2
      rw [bnd_eq, decide_eq_false (by omega : ¬ (m : Int) < m), whenO_f, Option.bind_some, if_neg (by simp)]
      rw [thenG_congr (E := fun p q r => (p ≤ q ∧ q ≤ r) ∧ (p < P ∨ p = P ∧ q < Q + 1)) fun p q r _ _ _ h1 h2 => by omega]
theorem then_b1 {m P : Nat} (hm : m ≤ 61) (a b : Nat → Nat → Bool) (hP : P < m) :
    loop (fun s : List Bool × Int => spec_l11Then.b1 (m : Int) (M m a) (P : Int) (M m b) s.1 s.2) (M m (thenG m a b fun p q r => (p ≤ q ∧ q ≤ r) ∧ p < P), (P : Int)) = some (M m (thenG m a b fun p q r => (p ≤ q ∧ q ≤ r) ∧ p < P + 1)) := by
  have h := loop_from (body := fun s : List Bool × Int => spec_l11Then.b1 (m : Int) (M m a) (P : Int) (M m b) s.1 s.2) P m (fun Q => (M m (thenG m a b fun p q r => (p ≤ q ∧ q ≤ r) ∧ (p < P ∨ p = P ∧ q < Q)), (Q : Int))) (M m (thenG m a b fun p q r => (p ≤ q ∧ q ≤ r) ∧ p < P + 1)) (by omega) (fun Q hPQ hQ => ?_) ?_
  · rw [thenG_congr (E := fun p q r => (p ≤ q ∧ q ≤ r) ∧ (p < P ∨ p = P ∧ q < P)) fun p q r _ _ _ _ _ => by omega]
    exact h
  · dsimp only; unfold spec_l11Then.b1
    rw [if_pos (by omega), then_b2 hm a b hP hQ hPQ, Option.bind_some]; unfold spec_l11Then.k2; rw [W, W_nat (by omega)]
  · dsimp only; unfold spec_l11Then.b1
    rw [if_neg (by omega)]
    rw [thenG_congr (E := fun p q r => (p ≤ q ∧ q ≤ r) ∧ p < P + 1) fun p q r _ _ _ h1 h2 => by omega]
theorem then_eq {m : Nat} (hm : m ≤ 61) (a b : Nat → Nat → Bool) : spec_l11Then (M m a) (M m b) (m : Int) = some (M m (thenG m a b fun p q r => p ≤ q ∧ q ≤ r)) := by
  have h := loop_up (body := fun s : List Bool × Int => spec_l11Then.b0 (m : Int) (M m a) (M m b) s.1 s.2) m (fun P => (M m (thenG m a b fun p q r => (p ≤ q ∧ q ≤ r) ∧ p < P), (P : Int))) (M m (thenG m a b fun p q r => p ≤ q ∧ q ≤ r)) (fun P hP => ?_) ?_ 0 (Nat.zero_le _)
  · unfold spec_l11Then
    have hs := sq_le hm
    have e : W ((m : Int) * (m : Int)) = ((m * m : Nat) : Int) := by
      have e : (m : Int) * (m : Int) = ((m * m : Nat) : Int) := by push_cast; rfl
      rw [e, W, W_eq (by omega) (by omega)]
    rw [e, T_mk (by omega), Option.bind_some]
    have e2 : T (m * m) (fun _ => false) = M m (thenG m a b fun p q r => (p ≤ q ∧ q ≤ r) ∧ p < 0) := by
      show M m (fun _ _ => false) = _
      exact M_congr fun p q _ _ => by symm; rw [← Bool.not_eq_true, thenG_t]; rintro ⟨q, _, h, _⟩; omega
    rw [e2]
    have h' : loop (fun s : List Bool × Int => spec_l11Then.b0 (m : Int) (M m a) (M m b) s.1 s.2) (M m (thenG m a b fun p q r => (p ≤ q ∧ q ≤ r) ∧ p < 0), 0) = _ := h
    rw [h', Option.bind_some]; rfl
  · dsimp only; unfold spec_l11Then.b0
    rw [if_pos (by omega), then_b1 hm a b hP, Option.bind_some]; unfold spec_l11Then.k1; rw [W, W_nat (by omega)]
  · dsimp only; unfold spec_l11Then.b0
    rw [if_neg (by omega)]
    rw [thenG_congr (E := fun p q r => p ≤ q ∧ q ≤ r) fun p q r h1 _ _ _ _ => by simp [h1]]
end Go.Proofs.Ytmmgpcnngaekoaa
