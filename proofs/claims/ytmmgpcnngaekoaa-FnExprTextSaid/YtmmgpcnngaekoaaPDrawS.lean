/- Drawn texts: one of a few; a text turned in one place. -/
import Derived.Test.YtmmgpcnngaekoaaDReText
import Derived.Test.YtmmgpcnngaekoaaDReParts
import Derived.Test.YtmmgpcnngaekoaaPDraw
namespace Go.Proofs.Ytmmgpcnngaekoaa
open Go Go.RowKit E
set_option linter.unusedVariables false

theorem once_ok {c : Tl1Cur} (h : CurOk c) {n : Int} (hn : n ≤ 4294967296) : ∃ b c', spec_l1Once c n = some (b, c') ∧ CurOk c' := by
  unfold spec_l1Once
  obtain ⟨x, c', e, h1, h2, h3⟩ := below_ok h hn
  rw [e, Option.bind_some]
  exact ⟨_, _, rfl, h3⟩
theorem pickS_ok {c : Tl1Cur} (h : CurOk c) {xs : List ByteArray} (h0 : 0 < xs.length) (hn : xs.length ≤ 1000) : ∃ x c', spec_l1Pick c xs = some (x, c') ∧ x ∈ xs ∧ CurOk c' := by
  unfold spec_l1Pick
  obtain ⟨x, c', e, h1, h2, h3⟩ := below_pos h (n := (xs.length : Int)) (by omega) (by omega)
  rw [e, Option.bind_some, ix_ok h1 h2, Option.bind_some]
  refine ⟨_, _, rfl, ?_, h3⟩
  have hx : x.toNat < xs.length := by omega
  rw [List.getD_eq_getElem?_getD, List.getElem?_eq_getElem hx]
  exact List.getElem_mem hx
theorem catS {a b : ByteArray} (h : a.size + b.size ≤ 9223372036854775807) : ∃ t, cat a b = some t ∧ t.size = a.size + b.size := by
  unfold cat
  have : IntKind.i64.max = 9223372036854775807 := by decide
  rw [if_neg (by rw [this]; omega)]
  exact ⟨_, rfl, by simp⟩
theorem cutsS {s : ByteArray} {l h : Int} (k : 0 ≤ l ∧ l ≤ h ∧ h ≤ s.size) : ∃ t, cuts s l h = some t ∧ t.size ≤ s.size := by
  unfold cuts
  rw [if_pos k]
  refine ⟨_, rfl, ?_⟩
  rw [ByteArray.size_extract]; omega
theorem dent_ok {c : Tl1Cur} (h : CurOk c) {s : ByteArray} (hs : s.size ≤ 100000) {bits : List ByteArray} (h0 : 0 < bits.length) (hn : bits.length ≤ 1000) (hb : ∀ b ∈ bits, b.size ≤ 100) : ∃ t c', spec_l2Dent c s bits = some (t, c') ∧ t.size ≤ 2 * s.size + 100 ∧ CurOk c' := by
  unfold spec_l2Dent
  have w : W ((s.size : Int) + 1) = (s.size : Int) + 1 := W_eq (by omega) (by omega)
  obtain ⟨x, c1, e1, h1, h2, h3⟩ := below_pos h (n := (s.size : Int) + 1) (by omega) (by omega)
  obtain ⟨y, c2, e2, h4, h5, h6⟩ := below_pos h3 (n := 3) (by decide) (by decide)
  obtain ⟨p, c3, e3, h7, h8⟩ := pickS_ok h6 h0 hn
  have hp := hb p h7
  obtain ⟨t1, k1, k2⟩ := cutsS (s := s) (l := 0) (h := x) ⟨by omega, by omega, by omega⟩
  rw [w, e1, Option.bind_some]
  dsimp only
  rw [e2, Option.bind_some]
  dsimp only
  split
  · rw [k1, Option.bind_some]; exact ⟨_, _, rfl, by omega, h6⟩
  split
  · have w2 : W (x + 1) = x + 1 := W_eq (by omega) (by omega)
    have hm : spec_l1Min (x + 1) (s.size : Int) = min (x + 1) (s.size : Int) := by unfold spec_l1Min; omega
    obtain ⟨t2, k3, k4⟩ := cutsS (s := s) (l := min (x + 1) (s.size : Int)) (h := (s.size : Int)) ⟨by omega, by omega, by omega⟩
    obtain ⟨t3, k5, k6⟩ := catS (a := t1) (b := p) (by omega)
    obtain ⟨t4, k7, k8⟩ := catS (a := t3) (b := t2) (by omega)
    rw [k1, Option.bind_some, e3, Option.bind_some]
    dsimp only
    rw [k5, Option.bind_some, w2, hm, k3, Option.bind_some, k7, Option.bind_some]
    exact ⟨_, _, rfl, by omega, h8⟩
  · obtain ⟨t2, k3, k4⟩ := cutsS (s := s) (l := x) (h := (s.size : Int)) ⟨by omega, by omega, by omega⟩
    obtain ⟨t3, k5, k6⟩ := catS (a := t1) (b := p) (by omega)
    obtain ⟨t4, k7, k8⟩ := catS (a := t3) (b := t2) (by omega)
    rw [k1, Option.bind_some, k3, Option.bind_some, e3, Option.bind_some]
    dsimp only
    rw [k5, Option.bind_some, k7, Option.bind_some]
    exact ⟨_, _, rfl, by omega, h8⟩
/-- A text made longer than some bound by one sign, put ahead or behind. -/
theorem longer_ok (f : ByteArray → Option ByteArray) (hf : ∀ t : ByteArray, t.size ≤ 1000000 → ∃ t', f t = some t' ∧ t'.size = t.size + 1) {c : Tl1Cur} (h : CurOk c) {s : ByteArray} (hs : s.size ≤ 1000000) :
    ∃ t, loop (fun q : List Int × Int × Int × ByteArray => (spec_l1Below (Tl1Cur.mk q.1 q.2.1 q.2.2.1) 4).bind fun a => if ((q.2.2.2.size : Int)) < W (199 + a.1) then (f q.2.2.2).bind fun z => some (.inl (a.2.b, a.2.i, a.2.h, z)) else some (.inr q.2.2.2)) (c.b, c.i, c.h, s) = some t ∧ t.size ≤ 1000000 := by
  refine loop_inv (I := fun q : List Int × Int × Int × ByteArray => CurOk ⟨q.1, q.2.1, q.2.2.1⟩ ∧ q.2.2.2.size ≤ 1000000) (μ := fun q => 300 - q.2.2.2.size) (R := fun t : ByteArray => t.size ≤ 1000000) ?_ (s := (c.b, c.i, c.h, s)) ⟨h, hs⟩
  rintro ⟨b, i, h, t⟩ ⟨i1, i2⟩
  dsimp only at i1 i2 ⊢
  obtain ⟨x, c1, e1, h1, h2, h3⟩ := below_pos i1 (n := 4) (by decide) (by decide)
  have w : W (199 + x) = 199 + x := W_eq (by omega) (by omega)
  rw [e1, Option.bind_some]
  dsimp only
  rw [w]
  by_cases k : (t.size : Int) < 199 + x
  · obtain ⟨t', e2, h4⟩ := hf t (by omega)
    rw [if_pos k, e2, Option.bind_some]
    exact .inr ⟨_, rfl, ⟨h3, by dsimp only; omega⟩, by dsimp only; omega⟩
  · rw [if_neg k]
    exact .inl ⟨_, rfl, i2⟩
end Go.Proofs.Ytmmgpcnngaekoaa
