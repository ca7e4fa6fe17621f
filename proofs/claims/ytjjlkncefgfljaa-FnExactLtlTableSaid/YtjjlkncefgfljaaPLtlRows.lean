/- The rows of a formula's table: the program and the reference write the same. -/
import Derived.Test.YtjjlkncefgfljaaDLtlTable
import Derived.Test.YtjjlkncefgfljaaPWordN
import Derived.Test.YtjjlkncefgfljaaPSo
import Derived.Test.YtjjlkncefgfljaaPLtlOk
import Derived.Test.YtjjlkncefgfljaaPHasI
namespace Go.Proofs.Ytjjlkncefgfljaa
open Go Go.RowKit E
set_option linter.unusedVariables false

/-- Places are written from the last one down. -/
def passN (f : Nat → Bool → Bool) (nx : Nat → Nat) : Nat → List Bool → List Bool
  | 0, r => r
  | k + 1, r => passN f nx k (r.set k (f k (r.getD (nx k) default)))
theorem passN_len (f : Nat → Bool → Bool) (nx : Nat → Nat) : ∀ (k : Nat) (r : List Bool), (passN f nx k r).length = r.length
  | 0, r => rfl
  | k + 1, r => by rw [passN, passN_len f nx k]; simp
theorem pass_loop {body : List Bool × Int → Option ((List Bool × Int) ⊕ List Bool)} {f : Nat → Bool → Bool} {nx : Nat → Nat} {n : Nat} (hn : n ≤ 1000) (go : ∀ (k : Nat) (r : List Bool), k < n → r.length = n → body (r, (k : Int)) = some (.inl (r.set k (f k (r.getD (nx k) default)), W ((k : Int) - 1))))
    (fin : ∀ r : List Bool, r.length = n → body (r, -1) = some (.inr r)) : ∀ (k : Nat) (r : List Bool), k ≤ n → r.length = n → loop body (r, W ((k : Int) - 1)) = some (passN f nx k r)
  | 0, r, hk, hr => by
    rw [show W (((0 : Nat) : Int) - 1) = -1 by decide]
    exact loop_end (fin r hr)
  | k + 1, r, hk, hr => by
    have e : W (((k + 1 : Nat) : Int) - 1) = (k : Int) := by rw [W, W_eq (by omega) (by omega)]; omega
    rw [e, loop_go (go k r (by omega) hr), passN]
    exact pass_loop hn go fin k _ (by omega) (by simpa using hr)
/-- A node's row is written twice. -/
def colAt (rows : List (List Bool)) (p : Nat) : List Bool := rows.map fun r => r.getD p default
def cellN (n : TNode) (rows : List (List Bool)) (w : TWord) (p : Nat) (nx : Bool) : Bool :=
  soV n (colAt rows p) (letN w p) (if n.kind = 7 then (rows.getD n.a.toNat default).getD (nxN w p) default else nx)
def row0 (n : TNode) (w : TWord) : List Bool := List.replicate (plN w) (decide (n.kind = 9) || decide (n.kind = 11))
def rowN (n : TNode) (rows : List (List Bool)) (w : TWord) : List Bool := passN (cellN n rows w) (nxN w) (plN w) (passN (cellN n rows w) (nxN w) (plN w) (row0 n w))
theorem rowN_len (n : TNode) (rows : List (List Bool)) (w : TWord) : (rowN n rows w).length = plN w := by
  unfold rowN row0; rw [passN_len, passN_len]; simp
/-- Rows of so many places each. -/
def RowsOk (rows : List (List Bool)) (n : Nat) : Prop := ∀ i, i < rows.length → (rows.getD i default).length = n
theorem colAt_get {rows : List (List Bool)} {p i : Nat} (hi : i < rows.length) : (colAt rows p).getD i default = (rows.getD i default).getD p default := by
  unfold colAt
  simp [List.getD_eq_getElem?_getD, hi]
theorem ixRow {rows : List (List Bool)} {n : Nat} (h : RowsOk rows n) {i : Int} (h0 : 0 ≤ i) (h1 : i < rows.length) {p : Nat} (hp : p < n) : ix rows i = some (rows.getD i.toNat default) ∧ ix (rows.getD i.toNat default) (p : Int) = some ((rows.getD i.toNat default).getD p default) :=
  ⟨ix_ok h0 h1, ix_nat (by rw [h i.toNat (by omega)]; exact hp)⟩
theorem l9One_eq {n : TNode} {rows : List (List Bool)} {w : TWord} (hw : WOk w) (hn : NodeAt ltP rows.length n) (hr : RowsOk rows (plN w)) {p : Nat} (hp : p < plN w) {out : List Bool} (ho : out.length = plN w) :
    spec_l9One n rows w (p : Int) out = some (cellN n rows w p (out.getD (nxN w p) default)) := by
  have hk := ltKinds hn
  have hx := nxN_lt hw hp
  have hl := letN_le hw hp
  unfold spec_l9One cellN soV
  have ra : 0 ≤ n.a → n.a < rows.length → (∀ p, p < plN w → ix rows n.a = some (rows.getD n.a.toNat default) ∧ ix (rows.getD n.a.toNat default) (p : Int) = some ((rows.getD n.a.toNat default).getD p default)) := fun h0 h1 p hp => ixRow hr h0 h1 hp
  have rb : 0 ≤ n.b → n.b < rows.length → (∀ p, p < plN w → ix rows n.b = some (rows.getD n.b.toNat default) ∧ ix (rows.getD n.b.toNat default) (p : Int) = some ((rows.getD n.b.toNat default).getD p default)) := fun h0 h1 p hp => ixRow hr h0 h1 hp
  have ca : 0 ≤ n.a → n.a < rows.length → (colAt rows p).getD n.a.toNat default = (rows.getD n.a.toNat default).getD p default := fun h0 h1 => colAt_get (by omega)
  have cb : 0 ≤ n.b → n.b < rows.length → (colAt rows p).getD n.b.toNat default = (rows.getD n.b.toNat default).getD p default := fun h0 h1 => colAt_get (by omega)
  have hout : ix out (nxN w p : Int) = some (out.getD (nxN w p) default) := ix_nat (by rw [ho]; exact hx)
  rw [l6After_eq hw hp, hout]
  by_cases k1 : n.kind = 1
  · rw [if_pos k1, if_pos k1]
  rw [if_neg k1, if_neg k1]
  by_cases k3 : n.kind = 3
  · rw [if_pos k3, if_pos k3, l3At_eq hw hp, Option.bind_some, decide_eq_true (by omega), chk_t, Option.bind_some]
    have := bit_i (a := letN w p) (n := n.a.toNat) (by omega) (by omega)
    rw [show ((n.a.toNat : Nat) : Int) = n.a by omega] at this
    rw [this]
  rw [if_neg k3, if_neg k3]
  by_cases k2 : n.kind = 2
  · simp [k2]
  have a0 : 0 ≤ n.a ∧ n.a < rows.length := by omega
  rw [(ra a0.1 a0.2 p hp).1, ca a0.1 a0.2]
  simp only [Option.bind_some]
  rw [(ra a0.1 a0.2 p hp).2, (ra a0.1 a0.2 (nxN w p) hx).2]
  simp only [Option.bind_some]
  by_cases k4 : n.kind = 4
  · rw [if_pos k4, if_pos k4]
  rw [if_neg k4, if_neg k4]
  by_cases k7 : n.kind = 7
  · simp [k7]
  by_cases k10 : n.kind = 10
  · simp only [k10, if_neg (by decide : ¬ (10 : Int) = 5), if_neg (by decide : ¬ (10 : Int) = 6), if_neg (by decide : ¬ (10 : Int) = 7), if_neg (by decide : ¬ (10 : Int) = 8), if_neg (by decide : ¬ (10 : Int) = 9), if_true]
    cases (rows.getD n.a.toNat default).getD p default <;> simp [whenO]
  by_cases k11 : n.kind = 11
  · simp only [k11, if_neg (by decide : ¬ (11 : Int) = 5), if_neg (by decide : ¬ (11 : Int) = 6), if_neg (by decide : ¬ (11 : Int) = 7), if_neg (by decide : ¬ (11 : Int) = 8), if_neg (by decide : ¬ (11 : Int) = 9), if_neg (by decide : ¬ (11 : Int) = 10), if_true]
    cases (rows.getD n.a.toNat default).getD p default <;> simp [whenO]
  have b0 : 0 ≤ n.b ∧ n.b < rows.length := by omega
  have hB := (rb b0.1 b0.2 p hp).2
  rw [(rb b0.1 b0.2 p hp).1, cb b0.1 b0.2]
  have k5 : n.kind = 5 ∨ n.kind = 6 ∨ n.kind = 8 ∨ n.kind = 9 := by omega
  have hA := (ra a0.1 a0.2 p hp).2
  generalize rows.getD n.b.toNat default = RB at hB ⊢
  generalize rows.getD n.a.toNat default = RA at hA ⊢
  generalize RA.getD p default = A at hA ⊢
  generalize RB.getD p default = B at hB ⊢
  simp only [Option.bind_some]
  rcases k5 with k5 | k5 | k5 | k5
  · simp only [k5, if_true]
    cases A
    · rfl
    · rw [whenO_t, Option.bind_some, whenO_t, hB]; rfl
  · simp only [k5, if_neg (by decide : ¬ (6 : Int) = 5), if_true]
    cases A
    · rw [Bool.not_false, whenO_t, Option.bind_some, whenO_t, hB]; rfl
    · rfl
  · simp only [k5, if_neg (by decide : ¬ (8 : Int) = 5), if_neg (by decide : ¬ (8 : Int) = 6), if_neg (by decide : ¬ (8 : Int) = 7), if_true, hB, Option.bind_some]
    cases B
    · simp only [Bool.not_false, whenO_t, whenO_f, Option.bind_some, hA, Bool.false_or, Bool.true_and, Bool.false_and] <;> (try cases A <;> rfl)
    · simp only [Bool.not_true, whenO_t, whenO_f, Option.bind_some, hA, Bool.true_or, Bool.true_and, Bool.false_and] <;> (try cases A <;> rfl)
  · simp only [k5, if_neg (by decide : ¬ (9 : Int) = 5), if_neg (by decide : ¬ (9 : Int) = 6), if_neg (by decide : ¬ (9 : Int) = 7), if_neg (by decide : ¬ (9 : Int) = 8), if_true, hB, Option.bind_some]
    cases B
    · simp only [Bool.not_false, whenO_t, whenO_f, Option.bind_some, hA, Bool.false_or, Bool.true_and, Bool.false_and] <;> (try cases A <;> rfl)
    · simp only [Bool.not_true, whenO_t, whenO_f, Option.bind_some, hA, Bool.true_or, Bool.true_and, Bool.false_and] <;> (try cases A <;> rfl)
/-- The two parts of a node, where they have rows. -/
theorem set_getB {xs : List Bool} {i j : Nat} {b : Bool} (hi : i < xs.length) : (xs.set i b).getD j default = if i = j then b else xs.getD j default := by
  simp only [List.getD_eq_getElem?_getD]
  by_cases e : i = j
  · subst e; simp [hi]
  · simp [e]
theorem columnOf_eq {n : TNode} {rows : List (List Bool)} {N : Nat} (ha : 0 ≤ n.a) (hb : 0 ≤ n.b) (hr : RowsOk rows N) (hl : rows.length ≤ 1000) {p : Nat} (hp : p < N) :
    ∃ c, impl_columnOf n rows (p : Int) = some c ∧ c.length = rows.length ∧ (n.a < rows.length → c.getD n.a.toNat default = (colAt rows p).getD n.a.toNat default) ∧ (n.b < rows.length → c.getD n.b.toNat default = (colAt rows p).getD n.b.toNat default) := by
  unfold impl_columnOf
  rw [mk_ok (by omega) (by omega), Option.bind_some, Int.toNat_natCast]
  have step : ∀ (y : List Bool) (x : Int), 0 ≤ x → y.length = rows.length → ∃ y', y'.length = rows.length ∧ (∀ i, y'.getD i default = if i = x.toNat ∧ x < rows.length then (colAt rows p).getD i default else y.getD i default) ∧
      ∀ (k : Int), (if x < (rows.length : Int) then (ix rows x).bind fun a29 => (ix a29 (p : Int)).bind fun a32 => (ck x y.length).bind fun m34 => some (.inl (y.set m34 a32, k)) else some (.inl (y, k))) = (some (.inl (y', k)) : Option ((List Bool × Int) ⊕ List Bool)) := by
    intro y x h0 hy
    by_cases h : x < (rows.length : Int)
    · obtain ⟨g1, g2⟩ := ixRow hr h0 h hp
      refine ⟨y.set x.toNat ((rows.getD x.toNat default).getD p default), by simpa using hy, fun i => ?_, fun k => ?_⟩
      · rw [set_getB (by omega)]
        by_cases e : x.toNat = i
        · rw [if_pos e, if_pos ⟨e.symm, h⟩, ← e, colAt_get (by omega)]
        · rw [if_neg e, if_neg (fun g => e g.1.symm)]
      · rw [if_pos h, g1, Option.bind_some, g2, Option.bind_some, ck_ok h0 (by omega), Option.bind_some]
    · exact ⟨y, hy, fun i => by rw [if_neg (fun g => h g.2)], fun k => by rw [if_neg h]⟩
  obtain ⟨y1, l1, g1, s1⟩ := step (List.replicate rows.length false) n.a ha (by simp)
  obtain ⟨y2, l2, g2, s2⟩ := step y1 n.b hb l1
  refine ⟨y2, ?_, l2, fun h => ?_, fun h => ?_⟩
  · have e0 : impl_columnOf.b0 n rows (p : Int) (List.replicate rows.length false) 0 = some (.inl (y1, 1)) := by
      unfold impl_columnOf.b0
      rw [if_pos (by decide), show ix [n.a, n.b] 0 = some n.a from rfl, Option.bind_some, show W ((0 : Int) + 1) = 1 by decide]
      exact s1 1
    have e1 : impl_columnOf.b0 n rows (p : Int) y1 1 = some (.inl (y2, 2)) := by
      unfold impl_columnOf.b0
      rw [if_pos (by decide), show ix [n.a, n.b] 1 = some n.b from rfl, Option.bind_some, show W ((1 : Int) + 1) = 2 by decide]
      exact s2 2
    have e2 : impl_columnOf.b0 n rows (p : Int) y2 2 = some (.inr y2) := by
      unfold impl_columnOf.b0; rw [if_neg (by decide)]
    rw [loop_go (s' := (y1, 1)) e0, loop_go (s' := (y2, 2)) e1, loop_end (r := y2) e2]; rfl
  · rw [g2]
    split
    · rfl
    · rw [g1, if_pos ⟨rfl, h⟩]
  · rw [g2, if_pos ⟨rfl, h⟩]
theorem soBy_eq {n : TNode} {rows : List (List Bool)} {w : TWord} (hw : WOk w) (hn : NodeAt ltP rows.length n) {p : Nat} (hp : p < plN w) {c : List Bool} (hc : c.length = rows.length) (ca : n.a < rows.length → c.getD n.a.toNat default = (colAt rows p).getD n.a.toNat default) (cb : n.b < rows.length → c.getD n.b.toNat default = (colAt rows p).getD n.b.toNat default) (nx : Bool) :
    impl_soBy n c (letN w p : Int) nx = some (soV n (colAt rows p) (letN w p) nx) := by
  have hk := ltKinds hn
  have hl := letN_le hw hp
  have xa : 0 ≤ n.a → n.a < rows.length → ix c n.a = some ((colAt rows p).getD n.a.toNat default) := fun h0 h1 => by rw [ix_ok h0 (by omega), ca h1]
  have xb : 0 ≤ n.b → n.b < rows.length → ix c n.b = some ((colAt rows p).getD n.b.toNat default) := fun h0 h1 => by rw [ix_ok h0 (by omega), cb h1]
  unfold impl_soBy impl_plain soV
  generalize (colAt rows p).getD n.a.toNat default = A at xa
  generalize (colAt rows p).getD n.b.toNat default = B at xb
  by_cases k7 : n.kind = 7
  · simp [k7]
  by_cases k1 : n.kind = 1
  · simp [k1]
  by_cases k3 : n.kind = 3
  · rw [if_neg k7, if_neg (by omega), if_neg (by omega), if_neg (by omega), if_neg (by omega), if_neg k1, if_pos k3, if_neg k1, if_pos k3, Option.bind_some]
    have := has_eq (s := letN w p) (by have : (2 : Nat) ^ 31 = 2147483648 := rfl
                                       omega) (x := n.a) (by omega)
    rw [this]
  by_cases k2 : n.kind = 2
  · simp [k2]
  have hA := xa (by omega) (by omega)
  by_cases k4 : n.kind = 4
  · simp only [k4, if_neg (by decide : ¬ (4 : Int) = 7), if_neg (by decide : ¬ (4 : Int) = 8), if_neg (by decide : ¬ (4 : Int) = 9), if_neg (by decide : ¬ (4 : Int) = 10), if_neg (by decide : ¬ (4 : Int) = 11), if_neg (by decide : ¬ (4 : Int) = 1), if_neg (by decide : ¬ (4 : Int) = 3), if_true, hA, Option.bind_some]
  by_cases k10 : n.kind = 10
  · simp only [k10, if_neg (by decide : ¬ (10 : Int) = 7), if_neg (by decide : ¬ (10 : Int) = 8), if_neg (by decide : ¬ (10 : Int) = 9), if_neg (by decide : ¬ (10 : Int) = 4), if_neg (by decide : ¬ (10 : Int) = 5), if_neg (by decide : ¬ (10 : Int) = 6), if_neg (by decide : ¬ (10 : Int) = 1), if_neg (by decide : ¬ (10 : Int) = 3), if_true, hA, Option.bind_some]
  by_cases k11 : n.kind = 11
  · simp only [k11, if_neg (by decide : ¬ (11 : Int) = 7), if_neg (by decide : ¬ (11 : Int) = 8), if_neg (by decide : ¬ (11 : Int) = 9), if_neg (by decide : ¬ (11 : Int) = 10), if_neg (by decide : ¬ (11 : Int) = 4), if_neg (by decide : ¬ (11 : Int) = 5), if_neg (by decide : ¬ (11 : Int) = 6), if_neg (by decide : ¬ (11 : Int) = 1), if_neg (by decide : ¬ (11 : Int) = 3), if_true, hA, Option.bind_some]
  have hB := xb (by omega) (by omega)
  have k5 : n.kind = 5 ∨ n.kind = 6 ∨ n.kind = 8 ∨ n.kind = 9 := by omega
  rcases k5 with k5 | k5 | k5 | k5
  · rw [if_neg (by omega), if_neg (by omega), if_neg (by omega), if_neg (by omega), if_neg (by omega), if_neg k1, if_neg k3, if_neg k4, if_pos k5, if_neg k1, if_neg k3, if_neg k4, if_pos k5, hA, Option.bind_some]
    cases A
    · rfl
    · rw [whenO_t, hB]; rfl
  · rw [if_neg (by omega), if_neg (by omega), if_neg (by omega), if_neg (by omega), if_neg (by omega), if_neg k1, if_neg k3, if_neg k4, if_neg (by omega), if_pos k5, if_neg k1, if_neg k3, if_neg k4, if_neg (by omega), if_pos k5, hA, Option.bind_some]
    cases A
    · rw [Bool.not_false, whenO_t, hB]; rfl
    · rfl
  · rw [if_neg k7, if_pos k5, if_neg k1, if_neg k3, if_neg k4, if_neg (by omega), if_neg (by omega), if_neg k7, if_pos k5, hB, Option.bind_some]
    cases B
    · rw [Bool.not_false, whenO_t, hA]; rfl
    · rfl
  · rw [if_neg k7, if_neg (by omega), if_pos k5, if_neg k1, if_neg k3, if_neg k4, if_neg (by omega), if_neg (by omega), if_neg k7, if_neg (by omega), if_pos k5, hB, Option.bind_some]
    cases B
    · rfl
    · rw [whenO_t, hA]; rfl
/-- The reference's row. -/
theorem l9Row_eq {n : TNode} {rows : List (List Bool)} {w : TWord} (hw : WOk w) (hn : NodeAt ltP rows.length n) (hr : RowsOk rows (plN w)) : spec_l9Row n rows w = some (rowN n rows w) := by
  have h1 := hw.stem; have h2 := hw.loop; have h3 := hw.one
  have hp : plN w ≤ 80 := by unfold plN; omega
  have W1 : ∀ k : Nat, k < 1000 → W ((k : Int) + 1) = ((k + 1 : Nat) : Int) := fun k hk => by rw [W, W_eq (by omega) (by omega)]; omega
  unfold spec_l9Row
  rw [l6Places_eq hw, mk_ok (by omega) (by omega), Option.bind_some, Int.toNat_natCast]
  have e1 := loop_up (body := fun s : List Bool × Int => spec_l9Row.b2 w n s.1 s.2) (plN w) (fun k => (List.replicate k (decide (n.kind = 9) || decide (n.kind = 11)) ++ List.replicate (plN w - k) false, (k : Int))) (row0 n w) (fun k hk => ?_) ?_ 0 (Nat.zero_le _)
  · simp only [List.replicate_zero, List.nil_append, Nat.sub_zero, Int.natCast_zero] at e1
    rw [e1, Option.bind_some]
    unfold spec_l9Row.k0
    have hpass : ∀ y : List Bool, y.length = plN w → loop (fun s : List Bool × Int => spec_l9Row.b1 n rows w s.1 s.2) (y, W ((plN w : Int) - 1)) = some (passN (cellN n rows w) (nxN w) (plN w) y) := fun y hy =>
      pass_loop (n := plN w) (by omega) (fun k r hk hr' => by
        unfold spec_l9Row.b1
        rw [if_pos (by show (k : Int) ≥ 0; omega)]
        dsimp only
        rw [l9One_eq hw hn hr hk hr', Option.bind_some, ck_nat (by omega), Option.bind_some]) (fun r _ => by unfold spec_l9Row.b1; rw [if_neg (by show ¬ ((-1 : Int) ≥ 0); decide)]) (plN w) y (Nat.le_refl _) hy
    have r0 : (row0 n w).length = plN w := by unfold row0; simp
    have r1 : (passN (cellN n rows w) (nxN w) (plN w) (row0 n w)).length = plN w := by rw [passN_len]; exact r0
    rw [loop_go (s' := (passN (cellN n rows w) (nxN w) (plN w) (row0 n w), 1)), loop_go (s' := (rowN n rows w, 2)), loop_end (r := rowN n rows w)]
    · rfl
    · dsimp only; unfold spec_l9Row.b0; rw [if_neg (by decide)]
    · dsimp only; unfold spec_l9Row.b0; rw [if_pos (by decide), l6Places_eq hw, hpass _ r1, Option.bind_some]; rfl
    · dsimp only; unfold spec_l9Row.b0; rw [if_pos (by decide), l6Places_eq hw, hpass _ r0, Option.bind_some]; rfl
  · dsimp only; unfold spec_l9Row.b2
    rw [l6Places_eq hw, if_pos (by omega), bnd_eq, ck_nat (by simp; omega), Option.bind_some, W1 k (by omega), List.set_append_right _ _ (by simp), show plN w - k = (plN w - (k + 1)) + 1 by omega, List.replicate_succ, List.length_replicate, Nat.sub_self, List.set_cons_zero, List.replicate_succ']
    simp
  · dsimp only; unfold spec_l9Row.b2
    rw [l6Places_eq hw, if_neg (by omega)]; simp [row0]
/-- The program's row. -/
theorem rowOf_eq {n : TNode} {rows : List (List Bool)} {w : TWord} (hw : WOk w) (hn : NodeAt ltP rows.length n) (hr : RowsOk rows (plN w)) (hl : rows.length ≤ 1000) : impl_rowOf n rows w = some (rowN n rows w) := by
  have h1 := hw.stem; have h2 := hw.loop; have h3 := hw.one
  have hp : plN w ≤ 80 := by unfold plN; omega
  have hk := ltKinds hn
  have W1 : ∀ k : Nat, k < 1000 → W ((k : Int) + 1) = ((k + 1 : Nat) : Int) := fun k hk => by rw [W, W_eq (by omega) (by omega)]; omega
  unfold impl_rowOf
  rw [places_eq hw, mk_ok (by omega) (by omega), Option.bind_some, Int.toNat_natCast]
  have e1 := loop_up (body := fun s : List Bool × Int => impl_rowOf.b2 (List.replicate (plN w) false) n s.1 s.2) (plN w) (fun k => (List.replicate k (decide (n.kind = 9) || decide (n.kind = 11)) ++ List.replicate (plN w - k) false, (k : Int))) (row0 n w) (fun k hk => ?_) ?_ 0 (Nat.zero_le _)
  · simp only [List.replicate_zero, List.nil_append, Nat.sub_zero, Int.natCast_zero] at e1
    rw [e1, Option.bind_some]
    unfold impl_rowOf.k0
    have hpass : ∀ y : List Bool, y.length = plN w → loop (fun s : List Bool × Int => impl_rowOf.b1 w n rows s.1 s.2) (y, W ((y.length : Int) - 1)) = some (passN (cellN n rows w) (nxN w) (plN w) y) := fun y hy => by
      rw [hy]
      refine pass_loop (n := plN w) (by omega) (fun k r hk' hr' => ?_) (fun r _ => by unfold impl_rowOf.b1; rw [if_neg (by show ¬ ((-1 : Int) ≥ 0); decide)]) (plN w) y (Nat.le_refl _) hy
      unfold impl_rowOf.b1
      have hx := nxN_lt hw hk'
      obtain ⟨c, c1, c2, c3, c4⟩ := columnOf_eq (n := n) (rows := rows) (by omega) (by omega) hr hl hk'
      rw [if_pos (by show (k : Int) ≥ 0; omega)]
      dsimp only
      rw [next_eq hw hk', ix_nat (by omega), Option.bind_some]
      have k3 : ∀ nx, impl_rowOf.k3 n rows (k : Int) w r nx = some (.inl (r.set k (soV n (colAt rows k) (letN w k) nx), W ((k : Int) - 1))) := fun nx => by
        unfold impl_rowOf.k3
        rw [c1, Option.bind_some, letter_eq hw hk', Option.bind_some, soBy_eq hw hn hk' c2 c3 c4, Option.bind_some, ck_nat (by omega), Option.bind_some]
      unfold cellN
      by_cases k7 : n.kind = 7
      · obtain ⟨g1, g2⟩ := ixRow hr (i := n.a) (by omega) (by omega) hx
        rw [if_pos k7, if_pos k7, g1, Option.bind_some, g2, Option.bind_some, k3]
      · rw [if_neg k7, if_neg k7, k3]
    have r0 : (row0 n w).length = plN w := by unfold row0; simp
    have r1 : (passN (cellN n rows w) (nxN w) (plN w) (row0 n w)).length = plN w := by rw [passN_len]; exact r0
    rw [loop_go (s' := (passN (cellN n rows w) (nxN w) (plN w) (row0 n w), 1)), loop_go (s' := (rowN n rows w, 2)), loop_end (r := rowN n rows w)]
    · rfl
    · dsimp only; unfold impl_rowOf.b0; rw [if_neg (by decide)]
    · dsimp only; unfold impl_rowOf.b0; rw [if_pos (by decide), hpass _ r1, Option.bind_some]; rfl
    · dsimp only; unfold impl_rowOf.b0; rw [if_pos (by decide), hpass _ r0, Option.bind_some]; rfl
  · dsimp only; unfold impl_rowOf.b2
    rw [List.length_replicate, if_pos (by omega), bnd_eq, ck_nat (by simp; omega), Option.bind_some, W1 k (by omega), List.set_append_right _ _ (by simp), show plN w - k = (plN w - (k + 1)) + 1 by omega, List.replicate_succ, List.length_replicate, Nat.sub_self, List.set_cons_zero, List.replicate_succ']
    simp
  · dsimp only; unfold impl_rowOf.b2
    rw [List.length_replicate, if_neg (by omega)]; simp [row0]
/-- The table. -/
def tabN (w : TWord) (e : List TNode) : List (List Bool) := accum (fun n rows => rowN n rows w) [] e
theorem tabN_len (w : TWord) (e : List TNode) : (tabN w e).length = e.length := by unfold tabN; rw [accum_len]; simp
theorem tabN_rows (w : TWord) (e : List TNode) (i : Nat) (hi : i ≤ e.length) : RowsOk (accum (fun n rows => rowN n rows w) [] (e.take i)) (plN w) := by
  intro j hj
  have hl : (accum (fun n rows => rowN n rows w) [] (e.take i)).length = i := by rw [accum_len]; simp; omega
  rw [accum_take _ default e hi (by omega), accum_get _ default e (by omega)]
  exact rowN_len _ _ _
theorem tab_loop {body : List (List Bool) × Int → Option ((List (List Bool) × Int) ⊕ List (List Bool))} {e : List TNode} (he : Nodes ltP e) {w : TWord}
    (go : ∀ k, k < e.length → (accum (fun n rows => rowN n rows w) [] (e.take k)).length = k → RowsOk (accum (fun n rows => rowN n rows w) [] (e.take k)) (plN w) → body (accum (fun n rows => rowN n rows w) [] (e.take k), (k : Int)) = some (.inl (accum (fun n rows => rowN n rows w) [] (e.take k) ++ [rowN (e.getD k default) (accum (fun n rows => rowN n rows w) [] (e.take k)) w], ((k + 1 : Nat) : Int))))
    (fin : body (tabN w e, (e.length : Int)) = some (.inr (tabN w e))) : loop body ([], 0) = some (tabN w e) := by
  have h1 := loop_up (body := body) e.length (fun k => (accum (fun n rows => rowN n rows w) [] (e.take k), (k : Int))) (tabN w e) (fun k hk => ?_) (by rw [List.take_length]; exact fin) 0 (Nat.zero_le _)
  · simpa [accum] using h1
  · have hl : (accum (fun n rows => rowN n rows w) [] (e.take k)).length = k := by rw [accum_len]; simp; omega
    rw [go k hk hl (tabN_rows w e k (by omega)), accum_snoc _ e hk]
theorem tableOf_eq {e : List TNode} (he : Nodes ltP e) {w : TWord} (hw : WOk w) : impl_tableOf e w = some (tabN w e) := by
  have h2 := he.2.1
  unfold impl_tableOf
  rw [tab_loop he (w := w) (fun k hk hl hr => ?_) ?_, Option.bind_some]
  · rfl
  · unfold impl_tableOf.b0; rw [if_neg (by show ¬ ((e.length : Int) < e.length); omega)]
  · unfold impl_tableOf.b0
    have hn := he.2.2 k hk
    rw [if_pos (by show (k : Int) < e.length; omega), ix_nat hk, Option.bind_some, rowOf_eq hw (by rw [hl]; exact hn) hr (by omega), Option.bind_some, app_small (by rw [hl]; simp; omega) (by decide), Option.bind_some, W, W_nat (by omega)]
noncomputable def ltTable (e : List TNode) (w : TWord) : List (List Bool) := if treeOk ltP e = true ∧ wordOk w 8 = true then tabN w e else []
theorem specTable_eq (e : List TNode) (w : TWord) : spec_LtlTable e w = some (ltTable e w) := by
  unfold spec_LtlTable ltTable
  rw [specLtlOk_eq, Option.bind_some, bnd_eq]
  by_cases h : treeOk ltP e = true
  · rw [h, Bool.not_true, Bool.not_false, whenO_t, l3Right_eq, Option.bind_some, Bool.false_or]
    by_cases g : wordOk w 8 = true
    · rw [if_neg (by simp [g]), if_pos ⟨rfl, g⟩]
      have he := treeOk_nodes h
      have hw := (wordOk_t g).1
      have h2 := he.2.1
      rw [tab_loop he (w := w) (fun k hk hl hr => ?_) ?_, Option.bind_some]
      · rfl
      · unfold spec_LtlTable.b0; rw [if_neg (by show ¬ ((e.length : Int) < e.length); omega)]
      · unfold spec_LtlTable.b0
        have hn := he.2.2 k hk
        rw [if_pos (by show (k : Int) < e.length; omega), ix_nat hk, Option.bind_some, l9Row_eq hw (by rw [hl]; exact hn) hr, Option.bind_some, app_small (by rw [hl]; simp; omega) (by decide), Option.bind_some, W, W_nat (by omega)]
    · rw [if_pos (by simpa using g), if_neg (fun q => g q.2)]
  · rw [Bool.not_eq_true] at h
    rw [h, Bool.not_false, Bool.not_true, whenO_f, Option.bind_some, Bool.true_or, if_pos rfl, if_neg (by simp)]
end Go.Proofs.Ytjjlkncefgfljaa
