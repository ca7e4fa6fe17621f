/- Boxes put together: in any grouping, with one; the box of a word. -/
import Derived.Test.YtcmbbpdepobnlaaPBoxM
namespace Go.Proofs.Ytcmbbpdepobnlaa
open Go Go.RowKit E
set_option linter.unusedVariables false

theorem bx_ext {m : Nat} {x y : List Int} (hx : Bx m x) (hy : Bx m y) (h : ∀ p q, p < m → q < m → (0 < ent m x p q ↔ 0 < ent m y p q) ∧ (ent m x p q = 2 ↔ ent m y p q = 2)) : x = y := by
  have tx : TabL x m (ent m x) := ⟨hx.1, fun a b _ _ => rfl⟩
  have ty : TabL y m (ent m y) := ⟨hy.1, fun a b _ _ => rfl⟩
  refine TabL.ext (tx.congr fun a b ha hb => ?_) ty
  have h1 := h a b ha hb
  have h2 := hx.2 (a * m + b)
  have h3 := hy.2 (a * m + b)
  unfold ent at h1 ⊢
  omega
theorem mul_pos' {m : Nat} {x y : List Int} (hx : Bx m x) (hy : Bx m y) {p q : Nat} (hp : p < m) (hq : q < m) : 0 < ent m (boxMulL m x y) p q ↔ ∃ r, r < m ∧ 0 < ent m x p r ∧ 0 < ent m y r q := by
  rw [mul_ent m x y hp hq]; exact mulC_iff x y m p q m
theorem mul_two' {m : Nat} {x y : List Int} (hx : Bx m x) (hy : Bx m y) {p q : Nat} (hp : p < m) (hq : q < m) : ent m (boxMulL m x y) p q = 2 ↔ ∃ r, r < m ∧ (0 < ent m x p r ∧ 0 < ent m y r q) ∧ (ent m x p r = 2 ∨ ent m y r q = 2) := by
  rw [mul_ent m x y hp hq]; exact mulC_two (fun i => (hx.2 i).2) (fun i => (hy.2 i).2) m p q m
theorem mul_assoc' {m : Nat} {x y z : List Int} (hx : Bx m x) (hy : Bx m y) (hz : Bx m z) : boxMulL m (boxMulL m x y) z = boxMulL m x (boxMulL m y z) := by
  have hxy := mul_bx hx hy
  have hyz := mul_bx hy hz
  refine bx_ext (mul_bx hxy hz) (mul_bx hx hyz) fun p q hp hq => ⟨?_, ?_⟩
  · rw [mul_pos' hxy hz hp hq, mul_pos' hx hyz hp hq]
    constructor
    · rintro ⟨r, hr, h1, h2⟩
      obtain ⟨s, hs, h3, h4⟩ := (mul_pos' hx hy hp hr).mp h1
      exact ⟨s, hs, h3, (mul_pos' hy hz hs hq).mpr ⟨r, hr, h4, h2⟩⟩
    · rintro ⟨s, hs, h1, h2⟩
      obtain ⟨r, hr, h3, h4⟩ := (mul_pos' hy hz hs hq).mp h2
      exact ⟨r, hr, (mul_pos' hx hy hp hr).mpr ⟨s, hs, h1, h3⟩, h4⟩
  · rw [mul_two' hxy hz hp hq, mul_two' hx hyz hp hq]
    constructor
    · rintro ⟨r, hr, ⟨h1, h2⟩, h5 | h5⟩
      · obtain ⟨s, hs, ⟨h3, h4⟩, h6⟩ := (mul_two' hx hy hp hr).mp h5
        refine ⟨s, hs, ⟨h3, (mul_pos' hy hz hs hq).mpr ⟨r, hr, h4, h2⟩⟩, ?_⟩
        rcases h6 with h6 | h6
        · exact .inl h6
        · exact .inr ((mul_two' hy hz hs hq).mpr ⟨r, hr, ⟨h4, h2⟩, .inl h6⟩)
      · obtain ⟨s, hs, h3, h4⟩ := (mul_pos' hx hy hp hr).mp h1
        exact ⟨s, hs, ⟨h3, (mul_pos' hy hz hs hq).mpr ⟨r, hr, h4, h2⟩⟩, .inr ((mul_two' hy hz hs hq).mpr ⟨r, hr, ⟨h4, h2⟩, .inr h5⟩)⟩
    · rintro ⟨s, hs, ⟨h1, h2⟩, h5 | h5⟩
      · obtain ⟨r, hr, h3, h4⟩ := (mul_pos' hy hz hs hq).mp h2
        exact ⟨r, hr, ⟨(mul_pos' hx hy hp hr).mpr ⟨s, hs, h1, h3⟩, h4⟩, .inl ((mul_two' hx hy hp hr).mpr ⟨s, hs, ⟨h1, h3⟩, .inl h5⟩)⟩
      · obtain ⟨r, hr, ⟨h3, h4⟩, h6⟩ := (mul_two' hy hz hs hq).mp h5
        refine ⟨r, hr, ⟨(mul_pos' hx hy hp hr).mpr ⟨s, hs, h1, h3⟩, h4⟩, ?_⟩
        rcases h6 with h6 | h6
        · exact .inl ((mul_two' hx hy hp hr).mpr ⟨s, hs, ⟨h1, h3⟩, .inr h6⟩)
        · exact .inr h6
theorem one_ent {m p q : Nat} (hp : p < m) (hq : q < m) : ent m (oneL m) p q = if p = q then 1 else 0 := (TabL.one m).2 p q hp hq
theorem one_pos {m p q : Nat} (hp : p < m) (hq : q < m) : 0 < ent m (oneL m) p q ↔ p = q := by
  rw [one_ent hp hq]; split <;> rename_i h <;> simp [h]
theorem one_two {m p q : Nat} (hp : p < m) (hq : q < m) : ¬ ent m (oneL m) p q = 2 := by
  rw [one_ent hp hq]; split <;> decide
theorem mul_one' {m : Nat} {x : List Int} (hx : Bx m x) : boxMulL m x (oneL m) = x := by
  have h1 := one_bx m
  refine bx_ext (mul_bx hx h1) hx fun p q hp hq => ⟨?_, ?_⟩
  · rw [mul_pos' hx h1 hp hq]
    constructor
    · rintro ⟨r, hr, g1, g2⟩
      obtain rfl := (one_pos hr hq).mp g2; exact g1
    · intro g; exact ⟨q, hq, g, (one_pos hq hq).mpr rfl⟩
  · rw [mul_two' hx h1 hp hq]
    constructor
    · rintro ⟨r, hr, ⟨g1, g2⟩, g3⟩
      obtain rfl := (one_pos hr hq).mp g2
      exact g3.resolve_right (one_two hr hr)
    · intro g; exact ⟨q, hq, ⟨by omega, (one_pos hq hq).mpr rfl⟩, .inl g⟩
theorem one_mul' {m : Nat} {x : List Int} (hx : Bx m x) : boxMulL m (oneL m) x = x := by
  have h1 := one_bx m
  refine bx_ext (mul_bx h1 hx) hx fun p q hp hq => ⟨?_, ?_⟩
  · rw [mul_pos' h1 hx hp hq]
    constructor
    · rintro ⟨r, hr, g1, g2⟩
      obtain rfl := (one_pos hp hr).mp g1; exact g2
    · intro g; exact ⟨p, hp, (one_pos hp hp).mpr rfl, g⟩
  · rw [mul_two' h1 hx hp hq]
    constructor
    · rintro ⟨r, hr, ⟨g1, g2⟩, g3⟩
      obtain rfl := (one_pos hp hr).mp g1
      exact g3.resolve_left (one_two hp hp)
    · intro g; exact ⟨p, hp, ⟨(one_pos hp hp).mpr rfl, by omega⟩, .inr g⟩
/-- The box of a letter, of a word. -/
def letStep (m : Nat) (x : Int) (z : List Int) (e : TEdge) : List Int := if e.letter = x then z.set (e.from_.toNat * m + e.to_.toNat) (if e.good = true then 2 else 1) else z
def letL (m : Nat) (x : Int) (es : List TEdge) : List Int := es.foldl (letStep m x) (List.replicate (m * m) 0)
theorem letStep_bx {m : Nat} {x : Int} {z : List Int} (e : TEdge) (h : Bx m z) : Bx m (letStep m x z e) := by
  unfold letStep
  split
  · rw [bx_iff] at h ⊢
    refine ⟨by rw [List.length_set, h.1], fun k hk => ?_⟩
    rcases List.mem_or_eq_of_mem_set hk with hk | rfl
    · exact h.2 k hk
    · split <;> omega
  · exact h
theorem zero_bx (m : Nat) : Bx m (List.replicate (m * m) 0) := by
  rw [bx_iff]
  refine ⟨by simp, fun k hk => ?_⟩
  have := (List.mem_replicate.mp hk).2
  omega
theorem foldl_bx {m : Nat} {x : Int} : ∀ (es : List TEdge) (z : List Int), Bx m z → Bx m (es.foldl (letStep m x) z)
  | [], z, h => h
  | e :: es, z, h => foldl_bx es _ (letStep_bx e h)
theorem let_bx (m : Nat) (x : Int) (es : List TEdge) : Bx m (letL m x es) := foldl_bx es _ (zero_bx m)
def wordL (m : Nat) (es : List TEdge) (w : List Int) : List Int := w.foldl (fun z x => boxMulL m z (letL m x es)) (oneL m)
theorem fold_bx (m : Nat) (es : List TEdge) : ∀ (w : List Int) (z : List Int), Bx m z → Bx m (w.foldl (fun z x => boxMulL m z (letL m x es)) z)
  | [], z, h => h
  | x :: w, z, h => fold_bx m es w _ (mul_bx h (let_bx m x es))
theorem word_bx (m : Nat) (es : List TEdge) (w : List Int) : Bx m (wordL m es w) := fold_bx m es w _ (one_bx m)
theorem fold_mul (m : Nat) (es : List TEdge) : ∀ (w : List Int) (z : List Int), Bx m z → w.foldl (fun z x => boxMulL m z (letL m x es)) z = boxMulL m z (wordL m es w)
  | [], z, h => (mul_one' h).symm
  | x :: w, z, h => by
    have hl := let_bx m x es
    rw [List.foldl_cons, fold_mul m es w _ (mul_bx h hl)]
    have e : wordL m es (x :: w) = boxMulL m (letL m x es) (wordL m es w) := by
      unfold wordL
      rw [List.foldl_cons, one_mul' hl, fold_mul m es w _ hl]; rfl
    rw [e, mul_assoc' h hl (word_bx m es w)]
theorem word_cons (m : Nat) (es : List TEdge) (x : Int) (w : List Int) : wordL m es (x :: w) = boxMulL m (letL m x es) (wordL m es w) := by
  have hl := let_bx m x es
  unfold wordL
  rw [List.foldl_cons, one_mul' hl, fold_mul m es w _ hl]; rfl
theorem word_app (m : Nat) (es : List TEdge) (u v : List Int) : wordL m es (u ++ v) = boxMulL m (wordL m es u) (wordL m es v) := by
  unfold wordL
  rw [List.foldl_append, fold_mul m es v _ (fold_bx m es u _ (one_bx m))]; rfl
end Go.Proofs.Ytcmbbpdepobnlaa
