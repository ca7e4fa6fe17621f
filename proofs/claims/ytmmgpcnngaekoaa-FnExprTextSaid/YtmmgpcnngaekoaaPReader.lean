/- The program's reader of trees, step by step. -/
import Derived.Test.YtmmgpcnngaekoaaDReText
import Derived.Test.YtmmgpcnngaekoaaQ1
namespace Go.Proofs.Ytmmgpcnngaekoaa
open Go Go.RowKit E
set_option linter.unusedVariables false

def bt (s : ByteArray) (i : Nat) : Int := ((s.data.toList.getD i 0).toNat : Int)
theorem bt_lt (s : ByteArray) (i : Nat) : 0 ≤ bt s i ∧ bt s i ≤ 255 := by
  unfold bt
  have := (s.data.toList.getD i 0).toNat_lt
  omega
theorem ixs_bt {s : ByteArray} {i : Nat} (h : i < s.size) : ixs s (i : Int) = some (bt s i) := by
  unfold ixs bt; rw [if_pos ⟨by omega, by omega⟩, Int.toNat_natCast]
theorem WS {k : Nat} (h : k < 9223372036854775807) : W ((k : Int) + 1) = ((k + 1 : Nat) : Int) := W_nat h
theorem peek_err {s : ByteArray} {i c : Int} {l : List TNode} (h : c ≠ 0) : impl_reader_peek ⟨s, i, c, l⟩ = some 0 := by
  unfold impl_reader_peek; rw [bnd_eq, if_pos (by simp [h])]
theorem peek_end {s : ByteArray} {i c : Int} {l : List TNode} (h : (s.size : Int) ≤ i) : impl_reader_peek ⟨s, i, c, l⟩ = some 0 := by
  unfold impl_reader_peek; rw [bnd_eq, if_pos (by simp; omega)]
theorem peek_ok {s : ByteArray} {i : Nat} {l : List TNode} (h : i < s.size) : impl_reader_peek ⟨s, (i : Int), 0, l⟩ = some (bt s i) := by
  unfold impl_reader_peek
  rw [bnd_eq, if_neg (by simp; omega)]
  show (ixs s (i : Int)).bind _ = _
  rw [ixs_bt h]; rfl
theorem skip_err {s : ByteArray} {i c : Int} {l : List TNode} {x : Int} (h : c ≠ 0) : impl_reader_skip ⟨s, i, c, l⟩ x = some (false, ⟨s, i, c, l⟩) := by
  unfold impl_reader_skip; rw [peek_err h, Option.bind_some, bnd_eq, bnd_eq, if_pos (by simp [h])]
theorem skip_end {s : ByteArray} {i c : Int} {l : List TNode} {x : Int} (h : (s.size : Int) ≤ i) : impl_reader_skip ⟨s, i, c, l⟩ x = some (false, ⟨s, i, c, l⟩) := by
  unfold impl_reader_skip; rw [peek_end h, Option.bind_some, bnd_eq, bnd_eq, if_pos (by simp; omega)]
theorem skip_no {s : ByteArray} {i : Nat} {l : List TNode} {x : Int} (h : i < s.size) (k : bt s i ≠ x) : impl_reader_skip ⟨s, (i : Int), 0, l⟩ x = some (false, ⟨s, (i : Int), 0, l⟩) := by
  unfold impl_reader_skip; rw [peek_ok h, Option.bind_some, bnd_eq, bnd_eq, if_pos (by simp [k])]
theorem skip_yes {s : ByteArray} {i : Nat} {l : List TNode} {x : Int} (h : i < s.size) (hs : s.size ≤ 1000000) (k : bt s i = x) : impl_reader_skip ⟨s, (i : Int), 0, l⟩ x = some (true, ⟨s, ((i + 1 : Nat) : Int), 0, l⟩) := by
  unfold impl_reader_skip
  rw [peek_ok h, Option.bind_some, bnd_eq, bnd_eq, if_neg (by simp [k]; omega)]
  show some (true, Treader.mk s (W ((i : Int) + 1)) 0 l) = _
  rw [WS (by omega)]
theorem leaf_eq {s : ByteArray} {i c : Int} {l : List TNode} {k a : Int} (h : l.length ≤ 1000000000000) : impl_reader_leaf ⟨s, i, c, l⟩ k a = some ⟨s, i, c, l ++ [TNode.mk k a 0]⟩ := by
  unfold impl_reader_leaf
  show (app 24 l _).bind _ = _
  rw [app_ok (by simp; omega) (by simp; omega)]; rfl
theorem one_eq {s : ByteArray} {i c : Int} {l : List TNode} {k : Int} (h : l.length ≤ 1000000000000) : impl_reader_one ⟨s, i, c, l⟩ k = some ⟨s, i, c, l ++ [TNode.mk k (W ((l.length : Int) - 1)) 0]⟩ := by
  unfold impl_reader_one
  show (app 24 l _).bind _ = _
  rw [app_ok (by simp; omega) (by simp; omega)]; rfl
theorem two_eq {s : ByteArray} {i c : Int} {l : List TNode} {k a : Int} (h : l.length ≤ 1000000000000) : impl_reader_two ⟨s, i, c, l⟩ k a = some ⟨s, i, c, l ++ [TNode.mk k a (W ((l.length : Int) - 1))]⟩ := by
  unfold impl_reader_two
  show (app 24 l _).bind _ = _
  rw [app_ok (by simp; omega) (by simp; omega)]; rfl
theorem fail_err {s : ByteArray} {i c : Int} {l : List TNode} (h : c ≠ 0) : impl_reader_fail ⟨s, i, c, l⟩ = some ⟨s, i, c, l⟩ := by
  unfold impl_reader_fail; rw [if_pos h]
theorem fail_end {s : ByteArray} {i : Int} {l : List TNode} (h : (s.size : Int) ≤ i) : impl_reader_fail ⟨s, i, 0, l⟩ = some ⟨s, i, 2, l⟩ := by
  unfold impl_reader_fail; rw [if_neg (by simp), if_pos h]
theorem fail_in {s : ByteArray} {i : Int} {l : List TNode} (h : ¬ (s.size : Int) ≤ i) : impl_reader_fail ⟨s, i, 0, l⟩ = some ⟨s, i, 3, l⟩ := by
  unfold impl_reader_fail; rw [if_neg (by simp), if_neg h]

abbrev RdO := List TNode × Int × Int
/-- Both readers stand at the same place, with the same tree where all is well. -/
def Good (s : ByteArray) (i n : Nat) (o : RdO) (t : Treader) : Prop := ∃ (j : Nat) (l : List TNode), t = ⟨s, (j : Int), o.2.2, l⟩ ∧ o.2.1 = j ∧ i ≤ j ∧ j ≤ s.size ∧ (o.2.2 = 0 → l = o.1) ∧ l.length + i ≤ n + j
def Sim (s : ByteArray) (i : Nat) (f : List TNode → Option RdO) (g : Treader → Option Treader) : Prop := ∀ l : List TNode, l.length ≤ i → ∃ o t, f l = some o ∧ g ⟨s, (i : Int), 0, l⟩ = some t ∧ Good s i l.length o t
/-- The specification's row of parts. -/
noncomputable def rowB (s : ByteArray) (op kind : Int) (f : Int → List TNode → Option RdO) (st : RdO) : Option (RdO ⊕ RdO) :=
  bnd (decide (st.2.2 = 0)) fun c46 => bnd (c46 && decide (st.2.1 < (s.size : Int))) fun c52 => (whenO c52 (ixs s st.2.1)).bind fun a55 => if (c52 && decide (a55 = op)) = true then (f (W (st.2.1 + 1)) st.1).bind fun a69 => if a69.2.2 = 0 then (app 24 a69.1 [TNode.mk kind (W ((st.1.length : Int) - 1)) (W ((a69.1.length : Int) - 1))]).bind fun z83 => some (.inl (z83, a69.2.1, a69.2.2)) else some (.inl (a69.1, a69.2.1, a69.2.2)) else some (.inr (st.1, st.2.1, st.2.2))
theorem row_loop {s : ByteArray} (hs : s.size ≤ 100000) (op kind : Int) (f : Int → List TNode → Option RdO) (g : Treader → Option Treader) (i : Nat) (h : ∀ j : Nat, i < j → j ≤ s.size → Sim s j (f (j : Int)) g) : ∀ (d j : Nat), s.size - j ≤ d → i ≤ j → j ≤ s.size → ∀ (y l : List TNode) (c : Int), l.length ≤ j → (c = 0 → l = y) →
    ∃ o t, loop (rowB s op kind f) (y, (j : Int), c) = some o ∧ loop (fun q : ByteArray × Int × Int × List TNode => impl_reader_row.b0 op g kind q.1 q.2.1 q.2.2.1 q.2.2.2) (s, (j : Int), c, l) = some t ∧ Good s j l.length o t := by
  intro d
  induction d with
  | zero =>
    intro j h1 h2 h3 y l c h4 h5
    have hj : j = s.size := by omega
    refine ⟨(y, (j : Int), c), ⟨s, (j : Int), c, l⟩, loop_end ?_, loop_end ?_, j, l, rfl, rfl, Nat.le_refl _, h3, h5, Nat.le_refl _⟩
    · unfold rowB
      dsimp only
      rw [bnd_eq, bnd_eq, decide_eq_false (by omega : ¬ ((j : Int) < s.size)), Bool.and_false, whenO_f, Option.bind_some, if_neg (by simp)]
    · dsimp only; unfold impl_reader_row.b0
      rw [skip_end (by omega), Option.bind_some, if_neg (by simp)]
  | succ d ih =>
    intro j h1 h2 h3 y l c h4 h5
    by_cases hc : c = 0
    · subst hc
      obtain rfl := h5 rfl
      by_cases hj : j < s.size
      · by_cases ho : bt s j = op
        · obtain ⟨o1, t1, f1, g1, j1, l1, e1, e2, e3, e4, e5, e6⟩ := h (j + 1) (by omega) (by omega) l (by omega)
          subst e1
          have hl1 : l1.length ≤ j1 := by omega
          have hstep : rowB s op kind f (l, (j : Int), 0) = some (.inl (if o1.2.2 = 0 then o1.1 ++ [TNode.mk kind (W ((l.length : Int) - 1)) (W ((o1.1.length : Int) - 1))] else o1.1, (j1 : Int), o1.2.2)) := by
            unfold rowB
            dsimp only
            rw [bnd_eq, bnd_eq, decide_eq_true (rfl : (0 : Int) = 0), decide_eq_true (by omega : (j : Int) < s.size), Bool.and_self, whenO_t, ixs_bt hj, Option.bind_some, ho, decide_eq_true (rfl : op = op), if_pos (by rfl), WS (by omega), f1, Option.bind_some]
            by_cases c0 : o1.2.2 = 0
            · rw [if_pos c0, if_pos c0, app_small (by rw [← e5 c0]; simp; omega) (by omega), Option.bind_some, e2]
            · rw [if_neg c0, if_neg c0, e2]
          have istep : impl_reader_row.b0 op g kind s (j : Int) 0 l = some (.inl (s, (j1 : Int), o1.2.2, l1 ++ [TNode.mk kind (W ((l.length : Int) - 1)) (W ((l1.length : Int) - 1))])) := by
            unfold impl_reader_row.b0
            rw [skip_yes hj (by omega) ho, Option.bind_some, if_pos rfl]
            dsimp only
            rw [g1, Option.bind_some]
            dsimp only
            rw [two_eq (by omega), Option.bind_some]
          rw [loop_go hstep, loop_go (s := (s, (j : Int), (0 : Int), l)) istep]
          obtain ⟨o, t, r1, r2, j2, l2, k1, k2, k3, k4, k5, k6⟩ := ih j1 (by omega) (by omega) e4 (if o1.2.2 = 0 then o1.1 ++ [TNode.mk kind (W ((l.length : Int) - 1)) (W ((o1.1.length : Int) - 1))] else o1.1) (l1 ++ [TNode.mk kind (W ((l.length : Int) - 1)) (W ((l1.length : Int) - 1))]) o1.2.2 (by simp; omega) (fun c0 => by rw [if_pos c0, e5 c0])
          refine ⟨o, t, r1, r2, j2, l2, k1, k2, by omega, k4, k5, ?_⟩
          simp at k6; omega
        · refine ⟨(l, (j : Int), 0), ⟨s, (j : Int), 0, l⟩, loop_end ?_, loop_end ?_, j, l, rfl, rfl, Nat.le_refl _, h3, h5, Nat.le_refl _⟩
          · unfold rowB
            dsimp only
            rw [bnd_eq, bnd_eq, decide_eq_true (rfl : (0 : Int) = 0), decide_eq_true (by omega : (j : Int) < s.size), Bool.and_self, whenO_t, ixs_bt hj, Option.bind_some, decide_eq_false ho, if_neg (by simp)]
          · dsimp only; unfold impl_reader_row.b0
            rw [skip_no hj ho, Option.bind_some, if_neg (by simp)]
      · refine ⟨(l, (j : Int), 0), ⟨s, (j : Int), 0, l⟩, loop_end ?_, loop_end ?_, j, l, rfl, rfl, Nat.le_refl _, h3, h5, Nat.le_refl _⟩
        · unfold rowB
          dsimp only
          rw [bnd_eq, bnd_eq, decide_eq_false (by omega : ¬ ((j : Int) < s.size)), Bool.and_false, whenO_f, Option.bind_some, if_neg (by simp)]
        · dsimp only; unfold impl_reader_row.b0
          rw [skip_end (by omega), Option.bind_some, if_neg (by simp)]
    · refine ⟨(y, (j : Int), c), ⟨s, (j : Int), c, l⟩, loop_end ?_, loop_end ?_, j, l, rfl, rfl, Nat.le_refl _, h3, h5, Nat.le_refl _⟩
      · unfold rowB
        dsimp only
        rw [bnd_eq, bnd_eq, decide_eq_false hc, Bool.false_and, whenO_f, Option.bind_some, if_neg (by simp)]
      · dsimp only; unfold impl_reader_row.b0
        rw [skip_err hc, Option.bind_some, if_neg (by simp)]
theorem row_sim {s : ByteArray} (hs : s.size ≤ 100000) (op kind : Int) (f : Int → List TNode → Option RdO) (g : Treader → Option Treader) (i : Nat) (hi : i ≤ s.size) (h : ∀ j : Nat, i ≤ j → j ≤ s.size → Sim s j (f (j : Int)) g) : Sim s i (fun l => (f (i : Int) l).bind fun a => loop (rowB s op kind f) (a.1, a.2.1, a.2.2)) (fun t => impl_reader_row t op kind g) := fun l hl => by
  obtain ⟨o1, t1, f1, g1, j1, l1, e1, e2, e3, e4, e5, e6⟩ := h i (Nat.le_refl _) hi l hl
  subst e1
  obtain ⟨o, t, r1, r2, j2, l2, k1, k2, k3, k4, k5, k6⟩ := row_loop hs op kind f g i (fun j h1 h2 => h j (by omega) h2) _ j1 (Nat.le_refl _) e3 e4 o1.1 l1 o1.2.2 (by omega) e5
  refine ⟨o, t, ?_, ?_, j2, l2, k1, k2, by omega, k4, k5, by omega⟩
  · dsimp only; rw [f1, Option.bind_some, e2]; exact r1
  · dsimp only; unfold impl_reader_row
    dsimp only
    rw [g1, Option.bind_some]
    dsimp only
    rw [r2]; rfl
/-- What comes behind an opening bracket. -/
theorem bracket_err {s : ByteArray} {i c : Int} {l l1 : List TNode} {g : Treader → Option Treader} {j : Int} {c1 : Int} (h : g ⟨s, i, c, l⟩ = some ⟨s, j, c1, l1⟩) (hc : c1 ≠ 0) : impl_reader_bracket ⟨s, i, c, l⟩ g = some ⟨s, j, c1, l1⟩ := by
  unfold impl_reader_bracket
  dsimp only
  rw [h, Option.bind_some]
  dsimp only
  rw [skip_err hc, Option.bind_some, if_pos (by rfl)]
  dsimp only
  rw [fail_err hc]; rfl
theorem bracket_end {s : ByteArray} {i c : Int} {l l1 : List TNode} {g : Treader → Option Treader} {j : Int} (h : g ⟨s, i, c, l⟩ = some ⟨s, j, 0, l1⟩) (hj : (s.size : Int) ≤ j) : impl_reader_bracket ⟨s, i, c, l⟩ g = some ⟨s, j, 2, l1⟩ := by
  unfold impl_reader_bracket
  dsimp only
  rw [h, Option.bind_some]
  dsimp only
  rw [skip_end hj, Option.bind_some, if_pos (by rfl)]
  dsimp only
  rw [fail_end hj]; rfl
theorem bracket_no {s : ByteArray} {i c : Int} {l l1 : List TNode} {g : Treader → Option Treader} {j : Nat} (h : g ⟨s, i, c, l⟩ = some ⟨s, (j : Int), 0, l1⟩) (hj : j < s.size) (k : bt s j ≠ 41) : impl_reader_bracket ⟨s, i, c, l⟩ g = some ⟨s, (j : Int), 3, l1⟩ := by
  unfold impl_reader_bracket
  dsimp only
  rw [h, Option.bind_some]
  dsimp only
  rw [skip_no hj k, Option.bind_some, if_pos (by rfl)]
  dsimp only
  rw [fail_in (by omega)]; rfl
theorem bracket_yes {s : ByteArray} {i c : Int} {l l1 : List TNode} {g : Treader → Option Treader} {j : Nat} (hs : s.size ≤ 1000000) (h : g ⟨s, i, c, l⟩ = some ⟨s, (j : Int), 0, l1⟩) (hj : j < s.size) (k : bt s j = 41) : impl_reader_bracket ⟨s, i, c, l⟩ g = some ⟨s, ((j + 1 : Nat) : Int), 0, l1⟩ := by
  unfold impl_reader_bracket
  dsimp only
  rw [h, Option.bind_some]
  dsimp only
  rw [skip_yes hj hs k, Option.bind_some, if_neg (by simp)]
/-- A digit's node is the same on both sides. -/
theorem digit_eq {b : Int} (h : 48 ≤ b ∧ b ≤ 255) : IntKind.i64.wrap (IntKind.u8.wrap (b - 48)) = W (IntKind.i64.wrap b - 48) := by
  have h1 : IntKind.u8.wrap (b - 48) = b - 48 := by rw [IntKind.wrap_u8]; omega
  rw [h1, W_eq (by omega) (by omega), W_eq (a := b) (by omega) (by omega), W, W_eq (by omega) (by omega)]
theorem byte_i64 {b : Int} (h : 0 ≤ b ∧ b ≤ 255) : IntKind.i64.wrap b = b := W_eq (by omega) (by omega)
/-- The whole of a text read: what both sides answer. -/
def readAll (s : ByteArray) (o : RdO) : RdO := if o.2.2 ≠ 0 then ([], o.2.1, o.2.2) else if o.2.1 < (s.size : Int) then ([], o.2.1, 5) else if (o.1.length : Int) > 31 then ([], 0, 4) else (o.1, (s.size : Int), 0)
theorem parsed_eq {s : ByteArray} (hs : s.size ≤ 200) {g : Treader → Option Treader} {o : RdO} {t : Treader} (h : g ⟨s, 0, 0, []⟩ = some t) (k : Good s 0 0 o t) : impl_parsed s g = some (readAll s o) := by
  obtain ⟨j, l, e1, e2, e3, e4, e5, e6⟩ := k
  subst e1
  unfold impl_parsed readAll
  rw [if_neg (by omega), h, Option.bind_some]
  dsimp only
  rw [e2]
  by_cases c : o.2.2 = 0
  · have c' : ¬ (o.2.2 ≠ 0) := fun x => x c
    rw [if_neg c', if_neg c']
    by_cases hj : (j : Int) < s.size
    · rw [if_pos hj, if_pos hj]
    · rw [if_neg hj, if_neg hj, e5 c]
      by_cases h31 : (o.1.length : Int) > 31
      · rw [if_pos h31, if_pos h31]
      · rw [if_neg h31, if_neg h31]
        unfold slices_Clip_impl_Node_impl_Node cut
        rw [if_pos ⟨by omega, by omega, by omega⟩]
        simp
  · rw [if_pos c, if_pos c]
end Go.Proofs.Ytmmgpcnngaekoaa
