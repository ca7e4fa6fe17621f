/- Drawn automata: what is drawn is some automaton. -/
import Derived.Test.YtcmbbpdepobnlaaDBoxes
import Derived.Test.YtcmbbpdepobnlaaPDrawP
import Derived.Test.YtcmbbpdepobnlaaPAOk
namespace Go.Proofs.Ytcmbbpdepobnlaa
open Go Go.RowKit E
set_option linter.unusedVariables false

theorem app32 {l m : List TEdge} (h : l.length + m.length ≤ 1000000000) : app 32 l m = some (l ++ m) := app_small h (by omega)
theorem autoMake_ok (letters states start : Int) (es : List TEdge) : ∃ a b, spec_AutoMake letters states start es = some (a, b) ∧ a.edges.length ≤ 10000 ∧ (a.states = states ∨ a.states = 0) := by
  unfold spec_AutoMake
  rw [specAutoOk_eq, Option.bind_some, bnd_eq]
  by_cases hok : autoOk ⟨letters, states, start, []⟩ = true
  · have h := autoOk_A hok
    have h1 : 0 ≤ states ∧ states ≤ 31 := h.sts
    have h3 : 1 ≤ letters ∧ letters ≤ 8 := h.lets
    rw [hok, Bool.not_true, Bool.false_or]
    by_cases hl : (es.length : Int) > 2000
    · rw [if_pos (by simpa using hl)]; exact ⟨_, _, rfl, by simp, .inr rfl⟩
    rw [if_neg (by simpa using hl)]
    have m1 : 0 ≤ states * letters ∧ states * letters ≤ 248 := ⟨Int.mul_nonneg h1.1 (by omega), by
      have := Int.mul_le_mul h1.2 h3.2 (by omega) (by omega); omega⟩
    have m2 : 0 ≤ states * letters * states ∧ states * letters * states ≤ 7688 := ⟨Int.mul_nonneg m1.1 h1.1, by
      have := Int.mul_le_mul m1.2 h1.2 h1.1 (by omega); omega⟩
    have w1 : W (states * letters) = states * letters := W_eq (by omega) (by omega)
    have w2 : W (states * letters * states) = states * letters * states := W_eq (by omega) (by omega)
    rw [w1, w2, mk_ok m2.1 (by omega), Option.bind_some]
    have key := loop_inv (body := fun s : Int × Int × Int × List TEdge × List Int × Int => spec_AutoMake.b1 es states letters s.1 s.2.1 s.2.2.1 s.2.2.2.1 s.2.2.2.2.1 s.2.2.2.2.2) (fun s => 0 ≤ s.2.2.2.2.2 ∧ (s.2.2.2.2.1.length : Int) = states * letters * states) (fun s => es.length - s.2.2.2.2.2.toNat)
      (fun r => (∃ q, r = .inl q ∧ (q.2.2.2.2.length : Int) = states * letters * states) ∨ ∃ q, r = .inr q ∧ q.1.edges.length ≤ 10000 ∧ q.1.states = 0) (fun s hs => ?_) (s := (0, 0, 0, [], List.replicate (states * letters * states).toNat (0 : Int), 0)) ⟨Int.le_refl 0, by simp; omega⟩
    · obtain ⟨r, e, hr⟩ := key
      rw [e, Option.bind_some]
      rcases hr with ⟨q, rfl, hq⟩ | ⟨q, rfl, hq⟩
      · show ∃ a b, spec_AutoMake.k0 states letters start q.1 q.2.1 q.2.2.1 q.2.2.2.1 q.2.2.2.2 = some (a, b) ∧ _
        unfold spec_AutoMake.k0
        generalize q.2.2.2.2 = ms at hq
        have key2 := loop_inv (body := fun s : Int × Int × Int × List TEdge × Int => spec_AutoMake.b0 ms states letters s.1 s.2.1 s.2.2.1 s.2.2.2.1 s.2.2.2.2) (fun s => 0 ≤ s.2.2.2.2 ∧ (s.2.2.2.1.length : Int) ≤ s.2.2.2.2 ∧ s.2.2.2.2 ≤ ms.length ∧ s.2.1 = states) (fun s => ms.length - s.2.2.2.2.toNat) (fun r => r.2.2.2.length ≤ 10000 ∧ r.2.1 = states) (fun s hs => ?_) (s := (letters, states, start, [], 0)) ⟨Int.le_refl 0, Int.le_refl 0, by dsimp only; omega, rfl⟩
        · obtain ⟨r2, e2, hr2⟩ := key2
          rw [e2, Option.bind_some]
          exact ⟨_, _, rfl, hr2.1, .inl hr2.2⟩
        · obtain ⟨u1, u2, u3, es', k⟩ := s
          obtain ⟨i1, i2, i3, i4⟩ := hs
          dsimp only at i1 i2 i3 i4 ⊢
          unfold spec_AutoMake.b0
          by_cases c : k < (ms.length : Int)
          · right
            have hst : states ≠ 0 := fun e => by rw [e, Int.mul_zero] at hq; omega
            have w : W (k + 1) = k + 1 := W_eq (by omega) (by omega)
            rw [if_pos c, ix_ok i1 c, Option.bind_some]
            split
            · rw [decide_eq_true hst, chk_t, Option.bind_some, decide_eq_true (by omega : letters ≠ 0), chk_t, Option.bind_some, Option.bind_some, Option.bind_some, Option.bind_some, Option.bind_some, app32 (by simp; omega), Option.bind_some, w]
              exact ⟨_, rfl, ⟨by dsimp only; omega, by simp; omega, by dsimp only; omega, i4⟩, by dsimp only; omega⟩
            · rw [w]
              exact ⟨_, rfl, ⟨by dsimp only; omega, by dsimp only; omega, by dsimp only; omega, i4⟩, by dsimp only; omega⟩
          · left
            rw [if_neg c]
            exact ⟨_, rfl, by dsimp only; omega, i4⟩
      · exact ⟨_, _, rfl, hq.1, .inr hq.2⟩
    · obtain ⟨u1, u2, u3, es', ms, k⟩ := s
      obtain ⟨i1, i2⟩ := hs
      dsimp only at i1 i2 ⊢
      unfold spec_AutoMake.b1
      by_cases c : k < (es.length : Int)
      · rw [if_pos c, ix_ok i1 c, Option.bind_some, bnd_eq, bnd_eq]
        generalize es.getD k.toNat default = e
        have g1 : ∀ x, spec_l4State x states = decide (0 ≤ x ∧ x ≤ states - 1) := fun x => by
          unfold spec_l4State; rw [l1Rg, W, W_eq (by omega) (by omega)]
        rw [g1, g1, l1Rg, W, W_eq (by omega) (by omega)]
        by_cases g : (0 ≤ e.from_ ∧ e.from_ ≤ states - 1) ∧ (0 ≤ e.to_ ∧ e.to_ ≤ states - 1) ∧ (0 ≤ e.letter ∧ e.letter ≤ letters - 1)
        · right
          obtain ⟨ga, gb, gc⟩ := g
          rw [decide_eq_true ga, decide_eq_true gb, decide_eq_true gc, if_neg (by simp)]
          have p1 : 0 ≤ e.from_ * letters ∧ e.from_ * letters ≤ (states - 1) * letters := ⟨Int.mul_nonneg ga.1 (by omega), Int.mul_le_mul_of_nonneg_right ga.2 (by omega)⟩
          have p2 : (states - 1) * letters = states * letters - letters := by rw [Int.sub_mul, Int.one_mul]
          have p3 : 0 ≤ e.from_ * letters + e.letter ∧ e.from_ * letters + e.letter ≤ states * letters - 1 := by omega
          have p4 : 0 ≤ (e.from_ * letters + e.letter) * states ∧ (e.from_ * letters + e.letter) * states ≤ (states * letters - 1) * states := ⟨Int.mul_nonneg p3.1 h1.1, Int.mul_le_mul_of_nonneg_right p3.2 h1.1⟩
          have p5 : (states * letters - 1) * states = states * letters * states - states := by rw [Int.sub_mul, Int.one_mul]
          have v1 : W (e.from_ * letters) = e.from_ * letters := W_eq (by omega) (by omega)
          have v2 : W (e.from_ * letters + e.letter) = e.from_ * letters + e.letter := W_eq (by omega) (by omega)
          have v3 : W ((e.from_ * letters + e.letter) * states) = (e.from_ * letters + e.letter) * states := W_eq (by omega) (by omega)
          have v4 : W ((e.from_ * letters + e.letter) * states + e.to_) = (e.from_ * letters + e.letter) * states + e.to_ := W_eq (by omega) (by omega)
          have hk2 : ∀ x, spec_AutoMake.k2 ms e letters states u1 u2 u3 es' k x = some (.inl (u1, u2, u3, es', ms.set ((e.from_ * letters + e.letter) * states + e.to_).toNat (spec_l1Max (ms.getD ((e.from_ * letters + e.letter) * states + e.to_).toNat default) x), k + 1)) := by
            intro x
            unfold spec_AutoMake.k2
            rw [v1, v2, v3, v4, ix_ok (by omega) (by omega), Option.bind_some]
            have hck : ck ((e.from_ * letters + e.letter) * states + e.to_) ms.length = some ((e.from_ * letters + e.letter) * states + e.to_).toNat := by unfold ck; rw [if_pos ⟨by omega, by omega⟩]
            rw [hck, Option.bind_some, show W (k + 1) = k + 1 from W_eq (by omega) (by omega)]
          rw [hk2, hk2]
          split
          · exact ⟨_, rfl, ⟨by dsimp only; omega, by simp; omega⟩, by dsimp only; omega⟩
          · exact ⟨_, rfl, ⟨by dsimp only; omega, by simp; omega⟩, by dsimp only; omega⟩
        · left
          have c2 : (((!decide (0 ≤ e.from_ ∧ e.from_ ≤ states - 1)) || (!decide (0 ≤ e.to_ ∧ e.to_ ≤ states - 1))) || (!decide (0 ≤ e.letter ∧ e.letter ≤ letters - 1))) = true := by
            simp only [Bool.or_eq_true, Bool.not_eq_true', decide_eq_false_iff_not]; omega
          rw [if_pos c2]
          exact ⟨_, rfl, .inr ⟨_, rfl, by simp, rfl⟩⟩
      · left
        rw [if_neg c]
        exact ⟨_, rfl, .inl ⟨_, rfl, i2⟩⟩
  · rw [Bool.not_eq_true] at hok
    rw [hok, Bool.not_false, Bool.true_or, if_pos rfl]
    exact ⟨_, _, rfl, by simp, .inr rfl⟩
theorem onceA_ok {c : Tl1Cur} (hc : CurOk c) {n : Int} (hn : n ≤ 4294967296) : ∃ b c', spec_l1Once c n = some (b, c') ∧ CurOk c' := by
  unfold spec_l1Once
  obtain ⟨x, c', e, _, _, h⟩ := below_ok hc hn
  rw [e, Option.bind_some]; exact ⟨_, _, rfl, h⟩
theorem drawEdges_ok {c : Tl1Cur} (hc : CurOk c) {l s m : Int} (hl : l ≤ 1000) (hs : s ≤ 1000) (hm : m ≤ 100000) : ∃ es c', spec_l4DrawEdges c l s m = some (es, c') ∧ CurOk c' := by
  unfold spec_l4DrawEdges
  have key := loop_inv (body := fun q : List Int × Int × Int × List TEdge × Int => spec_l4DrawEdges.b0 m s l q.1 q.2.1 q.2.2.1 q.2.2.2.1 q.2.2.2.2) (fun q => CurOk ⟨q.1, q.2.1, q.2.2.1⟩ ∧ 0 ≤ q.2.2.2.2 ∧ (q.2.2.2.1.length : Int) ≤ q.2.2.2.2) (fun q => m.toNat - q.2.2.2.2.toNat) (fun r => CurOk ⟨r.2.1, r.2.2.1, r.2.2.2⟩) (fun q hq => ?_) (s := (c.b, c.i, c.h, [], 0)) ⟨hc, Int.le_refl 0, Int.le_refl 0⟩
  · obtain ⟨r, e, hr⟩ := key
    rw [e, Option.bind_some]
    exact ⟨_, _, rfl, hr⟩
  · obtain ⟨b, i, h, y, k⟩ := q
    obtain ⟨i1, i2, i3⟩ := hq
    dsimp only at i1 i2 i3 ⊢
    unfold spec_l4DrawEdges.b0
    by_cases g : k < m
    · right
      obtain ⟨x1, c1, e1, _, _, h1⟩ := below_ok i1 (n := s) (by omega)
      obtain ⟨x2, c2, e2, _, _, h2⟩ := below_ok h1 (n := l) (by omega)
      obtain ⟨x3, c3, e3, _, _, h3⟩ := below_ok h2 (n := s) (by omega)
      obtain ⟨x4, c4, e4, h4⟩ := onceA_ok h3 (n := 3) (by omega)
      rw [if_pos g, e1, Option.bind_some, e2, Option.bind_some, e3, Option.bind_some, e4, Option.bind_some, app32 (by simp; omega), Option.bind_some, show W (k + 1) = k + 1 from W_eq (by omega) (by omega)]
      exact ⟨_, rfl, ⟨h4, by dsimp only; omega, by simp; omega⟩, by dsimp only; omega⟩
    · left
      rw [if_neg g]
      exact ⟨_, rfl, i1⟩
theorem autoRight_ok {c : Tl1Cur} (hc : CurOk c) {l s : Int} (hl : 0 ≤ l ∧ l ≤ 8) (hs : 1 ≤ s ∧ s ≤ 20) : ∃ a c', spec_l4DrawRight c l s = some (a, c') ∧ CurOk c' ∧ a.edges.length ≤ 10000 ∧ 0 ≤ a.states ∧ a.states ≤ 32 := by
  unfold spec_l4DrawRight
  obtain ⟨x, c1, e1, x1, x2, h1⟩ := below_pos hc (n := s) (by omega) (by omega)
  rw [e1, Option.bind_some]
  dsimp only
  have w : W (1 + x) = 1 + x := W_eq (by omega) (by omega)
  rw [w, decide_eq_true (by omega : 0 ≤ 1 + x), chk_t, Option.bind_some]
  have hsh : shl .i64 1 (1 + x) = ((2 ^ (1 + x).toNat : Nat) : Int) := by
    have := shl1_i (n := (1 + x).toNat) (by omega)
    rw [show (((1 + x).toNat : Nat) : Int) = 1 + x by omega] at this; exact this
  have hp : 2 ^ (1 + x).toNat ≤ 2 ^ 20 := Nat.pow_le_pow_right (by omega) (by omega)
  have h20 : 2 ^ 20 = 1048576 := rfl
  obtain ⟨y, c2, e2, _, _, h2⟩ := below_ok h1 (n := shl .i64 1 (1 + x)) (by rw [hsh]; omega)
  rw [e2, Option.bind_some]
  dsimp only
  have q1 : 0 ≤ 2 * (1 + x) * l ∧ 2 * (1 + x) * l ≤ 40 * 8 := ⟨Int.mul_nonneg (by omega) hl.1, Int.mul_le_mul (by omega) hl.2 hl.1 (by omega)⟩
  have w2 : W (2 * (1 + x)) = 2 * (1 + x) := W_eq (by omega) (by omega)
  have w3 : W (2 * (1 + x) * l) = 2 * (1 + x) * l := W_eq (by omega) (by omega)
  rw [w2, w3]
  obtain ⟨z, c3, e3, z1, z2, h3⟩ := below_ok h2 (n := 2 * (1 + x) * l) (by omega)
  rw [e3, Option.bind_some]
  dsimp only
  have w4 : W (1 + z) = 1 + z := W_eq (by omega) (by omega)
  rw [w4]
  obtain ⟨es, c4, e4, h4⟩ := drawEdges_ok h3 (l := l) (s := 1 + x) (m := 1 + z) (by omega) (by omega) (by omega)
  rw [e4, Option.bind_some]
  dsimp only
  obtain ⟨a, b, e5, h5, h6⟩ := autoMake_ok l (1 + x) (bOr .i64 1 y) es
  rw [e5, Option.bind_some]
  exact ⟨_, _, rfl, h4, h5, by show 0 ≤ a.states; omega, by show a.states ≤ 32; omega⟩
theorem drawAuto_ok {c : Tl1Cur} (hc : CurOk c) {s : Int} (hs : 1 ≤ s ∧ s ≤ 20) : ∃ a c', spec_l4DrawAuto c s = some (a, c') ∧ CurOk c' ∧ a.edges.length ≤ 10001 ∧ -1 ≤ a.states ∧ a.states ≤ 32 := by
  unfold spec_l4DrawAuto
  obtain ⟨l, c1, e1, m1, h1⟩ := pick_ok hc (xs := [1, 2, 2, 2, 3, 4]) (by decide) (by decide)
  have hl : 0 ≤ l ∧ l ≤ 8 := by simp only [List.mem_cons, List.not_mem_nil, or_false] at m1; omega
  obtain ⟨a, c2, e2, h2, la, s1, s2⟩ := autoRight_ok h1 hl hs
  obtain ⟨x, c3, e3, _, _, h3⟩ := below_ok h2 (n := 30) (by decide)
  rw [e1, Option.bind_some, e2, Option.bind_some, e3, Option.bind_some]
  unfold spec_l4DrawAuto.k0
  dsimp only
  split
  · obtain ⟨z, c4, e4, _, h4⟩ := pick_ok h3 (xs := [0, 8, 9]) (by decide) (by decide)
    rw [e4, Option.bind_some]; exact ⟨_, _, rfl, h4, by show a.edges.length ≤ _; omega, by show -1 ≤ a.states; omega, s2⟩
  split
  · obtain ⟨z, c4, e4, mz, h4⟩ := pick_ok h3 (xs := [0, -1, 31, 32]) (by decide) (by decide)
    have hz : -1 ≤ z ∧ z ≤ 32 := by simp only [List.mem_cons, List.not_mem_nil, or_false] at mz; omega
    rw [e4, Option.bind_some]; exact ⟨_, _, rfl, h4, by show a.edges.length ≤ _; omega, hz.1, hz.2⟩
  split
  · obtain ⟨z, c4, e4, _, h4⟩ := pick_ok h3 (xs := [-1, 0, 1048576]) (by decide) (by decide)
    rw [e4, Option.bind_some]; exact ⟨_, _, rfl, h4, by show a.edges.length ≤ _; omega, by show -1 ≤ a.states; omega, s2⟩
  split
  · rw [app32 (by simp; omega), Option.bind_some]; exact ⟨_, _, rfl, h3, by simp; omega, by show -1 ≤ a.states; omega, s2⟩
  split
  · rw [app32 (by simp; omega), Option.bind_some]; exact ⟨_, _, rfl, h3, by simp; omega, by show -1 ≤ a.states; omega, s2⟩
  · exact ⟨_, _, rfl, h3, by show a.edges.length ≤ _; omega, by show -1 ≤ a.states; omega, s2⟩
end Go.Proofs.Ytcmbbpdepobnlaa
