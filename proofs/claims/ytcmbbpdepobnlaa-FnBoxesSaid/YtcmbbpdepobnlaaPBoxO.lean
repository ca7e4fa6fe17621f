/- The program's box of a letter and of a word. -/
import Derived.Test.YtcmbbpdepobnlaaDBoxes
import Derived.Test.YtcmbbpdepobnlaaPBoxA
import Derived.Test.YtcmbbpdepobnlaaPAOk
import Derived.Test.YtcmbbpdepobnlaaPLetters
namespace Go.Proofs.Ytcmbbpdepobnlaa
open Go Go.RowKit E
set_option linter.unusedVariables false

theorem edge_cell {a : TAuto} (h : AOk a) (h4 : 1 ≤ a.states ∧ a.states ≤ 4) {e : TEdge} (he : e ∈ a.edges) : W (W (e.from_ * a.states) + e.to_) = ((e.from_.toNat * a.states.toNat + e.to_.toNat : Nat) : Int) ∧ e.from_.toNat * a.states.toNat + e.to_.toNat < a.states.toNat * a.states.toNat := by
  obtain ⟨h1, h2, _⟩ := h.edge e he
  have := cellI (m := a.states.toNat) (p := e.from_.toNat) (r := e.to_.toNat) (by omega) (by omega) (by omega)
  rw [show ((e.from_.toNat : Nat) : Int) = e.from_ by omega, show ((a.states.toNat : Nat) : Int) = a.states by omega, show ((e.to_.toNat : Nat) : Int) = e.to_ by omega] at this
  exact ⟨this, cell_lt (by omega) (by omega)⟩
/-- A loop over the edges. -/
theorem letter_loop {a : TAuto} (h : AOk a) (h4 : 1 ≤ a.states ∧ a.states ≤ 4) (x : Int) {body : List Int × Int → Option ((List Int × Int) ⊕ List Int)}
    (hb : ∀ (z : List Int) (i : Nat), i < a.edges.length → z.length = a.states.toNat * a.states.toNat → body (z, (i : Int)) = some (.inl (letStep a.states.toNat x z (a.edges.getD i default), ((i + 1 : Nat) : Int)))) (he : ∀ z : List Int, body (z, (a.edges.length : Int)) = some (.inr z)) :
    loop body (List.replicate (a.states.toNat * a.states.toNat) 0, 0) = some (letL a.states.toNat x a.edges) := by
  have key : ∀ (r pre : List TEdge), a.edges = pre ++ r → loop body (pre.foldl (letStep a.states.toNat x) (List.replicate (a.states.toNat * a.states.toNat) 0), (pre.length : Int)) = some (letL a.states.toNat x a.edges) := by
    intro r
    induction r with
    | nil =>
      intro pre hp
      rw [List.append_nil] at hp
      rw [← hp]
      exact loop_end (he _)
    | cons e r ih =>
      intro pre hp
      have hk : pre.length < a.edges.length := by rw [hp]; simp
      have hg : a.edges.getD pre.length default = e := by rw [hp]; simp
      have hl := (foldl_bx (m := a.states.toNat) (x := x) pre _ (zero_bx _)).1
      rw [loop_go (hb _ _ hk hl), hg]
      have := ih (pre ++ [e]) (by rw [hp]; simp)
      rw [List.foldl_append, List.length_append] at this
      exact this
  exact key a.edges [] rfl
theorem edge_mem {a : TAuto} {i : Nat} (h : i < a.edges.length) : a.edges.getD i default ∈ a.edges := by
  rw [List.getD_eq_getElem?_getD, List.getElem?_eq_getElem h]; exact List.getElem_mem h
theorem stN {a : TAuto} (h4 : 1 ≤ a.states ∧ a.states ≤ 4) : W (a.states * a.states) = ((a.states.toNat * a.states.toNat : Nat) : Int) ∧ a.states.toNat * a.states.toNat ≤ 16 := by
  have := mmI (m := a.states.toNat) (by omega)
  rw [show ((a.states.toNat : Nat) : Int) = a.states by omega] at this
  exact this
theorem implLetter_eq {a : TAuto} (h : AOk a) (h4 : 1 ≤ a.states ∧ a.states ≤ 4) (x : Int) : impl_boxLetter a x = some (letL a.states.toNat x a.edges) := by
  obtain ⟨g1, g2⟩ := stN h4
  have hn := h.num
  unfold impl_boxLetter
  rw [g1, mk_ok (by omega) (by omega), Option.bind_some, Int.toNat_natCast]
  have hL : loop (fun s : List Int × Int => impl_boxLetter.b0 a x s.1 s.2) (List.replicate (a.states.toNat * a.states.toNat) 0, 0) = some (letL a.states.toNat x a.edges) := letter_loop h h4 x (fun z i hi hz => by
    (try dsimp only); unfold impl_boxLetter.b0
    obtain ⟨c1, c2⟩ := edge_cell h h4 (edge_mem hi)
    rw [if_pos (by omega), ix_nat hi, Option.bind_some, W, W_nat (by omega)]
    unfold letStep
    by_cases g : (a.edges.getD i default).letter = x
    · rw [if_neg (fun k => k g), if_pos g, c1, ck_nat (by omega), Option.bind_some]
      by_cases k : (a.edges.getD i default).good = true
      · rw [if_pos k, if_pos k, ck_nat (by rw [List.length_set]; omega), Option.bind_some, List.set_set]
      · rw [if_neg k, if_neg k]
    · rw [if_pos g, if_neg g]) (fun z => by (try dsimp only); unfold impl_boxLetter.b0; rw [if_neg (by omega)])
  rw [hL, Option.bind_some]; rfl
theorem lettersOk_app {u v : List Int} {n : Int} : lettersOk (u ++ v) n = true ↔ lettersOk u n = true ∧ lettersOk v n = true := by
  have key : ∀ w : List Int, lettersOk w n = true ↔ ∀ x ∈ w, 0 ≤ x ∧ x ≤ W (n - 1) := by
    intro w
    unfold lettersOk
    rw [List.all_eq_true]
    constructor
    · intro h x hx
      obtain ⟨i, hi, rfl⟩ := List.getElem_of_mem hx
      have := h i (List.mem_range.mpr hi)
      simpa [hi] using this
    · intro h i hi
      have hi := List.mem_range.mp hi
      have := h _ (List.getElem_mem hi)
      simpa [hi] using this
  rw [key, key, key]
  constructor
  · intro h; exact ⟨fun x hx => h x (List.mem_append_left _ hx), fun x hx => h x (List.mem_append_right _ hx)⟩
  · rintro ⟨h1, h2⟩ x hx
    rcases List.mem_append.mp hx with hx | hx
    · exact h1 x hx
    · exact h2 x hx
noncomputable def boxOf (a : TAuto) (w : List Int) : List Int := if (1 ≤ a.states ∧ a.states ≤ 4) ∧ w.length ≤ 60 ∧ autoOk a = true ∧ lettersOk w a.letters = true then wordL a.states.toNat a.edges w else []
theorem fold_loopW {m : Nat} {es : List TEdge} {w : List Int} {body : List Int × Int → Option ((List Int × Int) ⊕ List Int)}
    (hb : ∀ (z : List Int) (i : Nat), i < w.length → Bx m z → body (z, (i : Int)) = some (.inl (boxMulL m z (letL m (w.getD i default) es), ((i + 1 : Nat) : Int)))) (he : ∀ z : List Int, body (z, (w.length : Int)) = some (.inr z)) :
    loop body (oneL m, 0) = some (wordL m es w) := by
  have key : ∀ (r pre : List Int), w = pre ++ r → loop body (wordL m es pre, (pre.length : Int)) = some (wordL m es w) := by
    intro r
    induction r with
    | nil =>
      intro pre hp
      rw [List.append_nil] at hp
      rw [← hp]
      exact loop_end (he _)
    | cons e r ih =>
      intro pre hp
      have hk : pre.length < w.length := by rw [hp]; simp
      have hg : w.getD pre.length default = e := by rw [hp]; simp
      rw [loop_go (hb _ _ hk (word_bx m es pre)), hg]
      have := ih (pre ++ [e]) (by rw [hp]; simp)
      unfold wordL at this ⊢
      rw [List.foldl_append, List.length_append] at this
      exact this
  exact key w [] rfl
theorem implBoxOf_eq (a : TAuto) (w : List Int) (hw : w.length ≤ 1048576) : impl_BoxOf a w = some (boxOf a w) := by
  unfold impl_BoxOf boxOf
  simp only [bnd_eq, boxed_eq]
  by_cases h4 : 1 ≤ a.states ∧ a.states ≤ 4
  · by_cases h60 : w.length ≤ 60
    · rw [decide_eq_true h4, decide_eq_false (show ¬ (w.length : Int) > 60 by omega)]
      simp only [Bool.not_true, Bool.or_self, Bool.not_false, whenO_t, implAutoOk_eq, Option.bind_some, Bool.false_or]
      by_cases hA : autoOk a = true
      · have hok := autoOk_A hA
        simp only [hA, Bool.not_true, Bool.not_false, whenO_t, implLetters_eq w a.letters hw, Option.bind_some, Bool.false_or]
        by_cases hL : lettersOk w a.letters = true
        · rw [hL, if_neg (by simp), if_pos (by exact ⟨h4, h60, by simp⟩)]
          have h1 := implOne_eq (m := a.states.toNat) (by omega)
          rw [show ((a.states.toNat : Nat) : Int) = a.states by omega] at h1
          rw [h1, Option.bind_some]
          have hLp : loop (fun s : List Int × Int => impl_BoxOf.b0 w a s.1 s.2) (oneL a.states.toNat, 0) = some (wordL a.states.toNat a.edges w) := fold_loopW (fun z i hi hz => by
            (try dsimp only); unfold impl_BoxOf.b0
            have hm := implMul_eq (m := a.states.toNat) (by omega) hz (let_bx a.states.toNat (w.getD i default) a.edges)
            rw [show ((a.states.toNat : Nat) : Int) = a.states by omega] at hm
            rw [if_pos (by omega), ix_nat hi, Option.bind_some, implLetter_eq hok h4, Option.bind_some, hm, Option.bind_some, W, W_nat (by omega)]) (fun z => by (try dsimp only); unfold impl_BoxOf.b0; rw [if_neg (by omega)])
          rw [hLp, Option.bind_some]; rfl
        · rw [if_pos (by simpa using hL), if_neg (fun k => hL k.2.2.2)]
      · simp only [hA, Bool.not_false, Bool.not_true, whenO_f, Option.bind_some, Bool.true_or, if_true]
        rw [if_neg (fun k => by exact absurd k.2.2.1 (by simp))]
    · rw [decide_eq_true (show (w.length : Int) > 60 by omega)]
      simp only [Bool.or_true, Bool.not_true, whenO_f, Option.bind_some, Bool.true_or, if_true]
      rw [if_neg (fun k => h60 k.2.1)]
  · rw [decide_eq_false h4]
    simp only [Bool.not_false, Bool.true_or, Bool.not_true, whenO_f, Option.bind_some, if_true]
    rw [if_neg (fun k => h4 k.1)]
end Go.Proofs.Ytcmbbpdepobnlaa
