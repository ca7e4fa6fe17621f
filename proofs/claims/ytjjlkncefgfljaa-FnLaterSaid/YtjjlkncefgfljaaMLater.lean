/- Plain texts of FnLater, put together. -/
import Derived.Test.YtjjlkncefgfljaaDLater
import Derived.Test.YtjjlkncefgfljaaWf
import Derived.Test.YtjjlkncefgfljaaQ1
import Derived.Test.YtjjlkncefgfljaaQ0
import Derived.Test.YtjjlkncefgfljaaTy

/- Loops that ask whether all are so. -/
section
namespace Go.Proofs.Ytjjlkncefgfljaa
open Go Go.RowKit E
set_option linter.unusedVariables false

theorem inRg (x a b : Int) : impl_inRange x a b = decide (a ≤ x ∧ x ≤ b) := inR
theorem l1Rg (x a b : Int) : spec_l1In x a b = decide (a ≤ x ∧ x ≤ b) := inR
theorem WN {k : Nat} (h : k < 9223372036854775807) : W ((k : Int) + 1) = ((k + 1 : Nat) : Int) := W_nat h
/-- A loop that asks each place. -/
theorem all_loop {body : Int → Option (Int ⊕ (Unit ⊕ Bool))} (n : Nat) (c : Nat → Bool) (go : ∀ k, k < n → body (k : Int) = some (if c k = true then .inl ((k + 1 : Nat) : Int) else .inr (.inr false))) (fin : body (n : Int) = some (.inr (.inl ()))) : loop body 0 = some (if (List.range n).all c = true then .inl () else .inr false) := by
  have key : ∀ d k, k + d = n → (∀ j, j < k → c j = true) → loop body (k : Int) = some (if (List.range n).all c = true then .inl () else .inr false) := by
    intro d
    induction d with
    | zero =>
      intro k hk he
      obtain rfl : k = n := by omega
      rw [if_pos (List.all_eq_true.mpr fun x hx => he x (List.mem_range.mp hx))]
      exact loop_end fin
    | succ d ih =>
      intro k hk he
      by_cases h : c k = true
      · rw [loop_go (s' := ((k + 1 : Nat) : Int)) (by rw [go k (by omega), if_pos h])]
        refine ih (k + 1) (by omega) fun j hj => ?_
        by_cases e : j = k
        · rw [e]; exact h
        · exact he j (by omega)
      · rw [if_neg (fun g => h (List.all_eq_true.mp g k (List.mem_range.mpr (by omega))))]
        exact loop_end (by rw [go k (by omega), if_neg h])
  exact key n 0 (by omega) (fun j hj => absurd hj (by omega))
end Go.Proofs.Ytjjlkncefgfljaa
end

/- Letters below a number: the program. -/
section
namespace Go.Proofs.Ytjjlkncefgfljaa
open Go Go.RowKit E
set_option linter.unusedVariables false

def lettersOk (w : List Int) (n : Int) : Bool := (List.range w.length).all fun k => decide (0 ≤ w.getD k default ∧ w.getD k default ≤ W (n - 1))
theorem implLetters_eq (w : List Int) (n : Int) (hl : w.length ≤ 1048576) : impl_areLetters w n = some (lettersOk w n) := by
  unfold impl_areLetters
  rw [all_loop w.length (fun k => decide (0 ≤ w.getD k default ∧ w.getD k default ≤ W (n - 1))) (fun k hk => ?_) (by unfold impl_areLetters.b0; rw [if_neg (by omega)]), Option.bind_some]
  · show Sum.elim _ _ (if lettersOk w n = true then _ else _) = _
    cases lettersOk w n <;> rfl
  · unfold impl_areLetters.b0
    rw [if_pos (by omega), ix_nat hk, Option.bind_some, inRg, WN (by omega)]
    cases decide (0 ≤ w.getD k default ∧ w.getD k default ≤ W (n - 1)) <;> rfl

end Go.Proofs.Ytjjlkncefgfljaa
end

/- Letters below a number: the reference. -/
section
namespace Go.Proofs.Ytjjlkncefgfljaa
open Go Go.RowKit E
set_option linter.unusedVariables false

theorem specLetters_eq (w : List Int) (n : Int) (hl : w.length ≤ 1048576) : spec_l3Letters w n = some (lettersOk w n) := by
  unfold spec_l3Letters
  rw [all_loop w.length (fun k => decide (0 ≤ w.getD k default ∧ w.getD k default ≤ W (n - 1))) (fun k hk => ?_) (by unfold spec_l3Letters.b0; rw [if_neg (by omega)]), Option.bind_some]
  · show Sum.elim _ _ (if lettersOk w n = true then _ else _) = _
    cases lettersOk w n <;> rfl
  · unfold spec_l3Letters.b0
    rw [if_pos (by omega), ix_nat hk, Option.bind_some, l1Rg, WN (by omega)]
    cases decide (0 ≤ w.getD k default ∧ w.getD k default ≤ W (n - 1)) <;> rfl

end Go.Proofs.Ytjjlkncefgfljaa
end

/- Words: which are right, their letters, the next place. -/
section
namespace Go.Proofs.Ytjjlkncefgfljaa
open Go Go.RowKit E
set_option linter.unusedVariables false

def wordOk (w : TWord) (n : Int) : Bool := decide (1 ≤ n ∧ n ≤ 8) && decide (w.stem.length ≤ 40) && decide (1 ≤ w.loop.length ∧ w.loop.length ≤ 40) && lettersOk w.stem n && lettersOk w.loop n
theorem specWordOk_eq (w : TWord) (n : Int) : spec_WordOk w n = some (wordOk w n) := by
  unfold spec_WordOk wordOk
  rw [bnd_eq, bnd_eq, l1Rg, l1Rg]
  by_cases h1 : 1 ≤ n ∧ n ≤ 8
  · by_cases h2 : w.stem.length ≤ 40
    · by_cases h3 : 1 ≤ w.loop.length ∧ w.loop.length ≤ 40
      · rw [decide_eq_true h1, decide_eq_true h2, decide_eq_true h3, decide_eq_false (by omega : ¬ (w.stem.length : Int) > 40), decide_eq_true (by omega : 1 ≤ (w.loop.length : Int) ∧ (w.loop.length : Int) ≤ 40), if_neg (by simp), specLetters_eq _ _ (by omega), Option.bind_some]
        cases lettersOk w.stem n
        · rfl
        · rw [whenO_t, specLetters_eq _ _ (by omega)]; simp
      · rw [decide_eq_false (by omega : ¬ (1 ≤ (w.loop.length : Int) ∧ (w.loop.length : Int) ≤ 40)), decide_eq_false h3, if_pos (by simp)]; simp
    · rw [decide_eq_true (by omega : (w.stem.length : Int) > 40), decide_eq_false h2, if_pos (by simp)]; simp
  · rw [decide_eq_false h1, if_pos (by simp)]; simp
theorem l3Right_eq (w : TWord) : spec_l3Right w = some (wordOk w 8) := by unfold spec_l3Right; rw [specWordOk_eq]; rfl
/-- What a right word is. -/
structure WOk (w : TWord) : Prop where
  stem : w.stem.length ≤ 40
  one : 1 ≤ w.loop.length
  loop : w.loop.length ≤ 40
  ls : ∀ k, k < w.stem.length → 0 ≤ w.stem.getD k default ∧ w.stem.getD k default ≤ 7
  ll : ∀ k, k < w.loop.length → 0 ≤ w.loop.getD k default ∧ w.loop.getD k default ≤ 7
theorem lettersOk_t {l : List Int} {n : Int} (hn : 1 ≤ n ∧ n ≤ 8) (h : lettersOk l n = true) : ∀ k, k < l.length → 0 ≤ l.getD k default ∧ l.getD k default ≤ n - 1 := by
  intro k hk
  have := List.all_eq_true.mp h k (List.mem_range.mpr hk)
  rw [decide_eq_true_eq, W, W_eq (by omega) (by omega)] at this
  exact this
theorem wordOk_t {w : TWord} {n : Int} (h : wordOk w n = true) : WOk w ∧ (1 ≤ n ∧ n ≤ 8) ∧ lettersOk w.stem n = true ∧ lettersOk w.loop n = true := by
  unfold wordOk at h
  simp only [Bool.and_eq_true, decide_eq_true_eq] at h
  obtain ⟨⟨⟨⟨h1, h2⟩, h3⟩, h4⟩, h5⟩ := h
  exact ⟨⟨h2, h3.1, h3.2, fun k hk => by have := lettersOk_t h1 h4 k hk; omega, fun k hk => by have := lettersOk_t h1 h5 k hk; omega⟩, h1, h4, h5⟩
/-- How many places; the letter at a place; the place behind it. -/
def plN (w : TWord) : Nat := w.stem.length + w.loop.length
def letN (w : TWord) (p : Nat) : Nat := (if p < w.stem.length then w.stem.getD p default else w.loop.getD (p - w.stem.length) default).toNat
def nxN (w : TWord) (p : Nat) : Nat := if p + 1 = plN w then w.stem.length else p + 1
theorem nxN_lt {w : TWord} (h : WOk w) {p : Nat} (hp : p < plN w) : nxN w p < plN w := by
  have := h.one
  unfold nxN plN at *
  split <;> omega
theorem letN_le {w : TWord} (h : WOk w) {p : Nat} (hp : p < plN w) : letN w p ≤ 7 := by
  unfold letN
  split
  · rename_i k; have := h.ls p k; omega
  · rename_i k; have := h.ll (p - w.stem.length) (by unfold plN at hp; omega); omega
theorem l6Places_eq {w : TWord} (h : WOk w) : spec_l6Places w = (plN w : Int) := by
  have := h.stem; have := h.loop
  unfold spec_l6Places plN
  rw [W, W_eq (by omega) (by omega)]; omega
theorem l6After_eq {w : TWord} (h : WOk w) {p : Nat} (hp : p < plN w) : spec_l6After w (p : Int) = (nxN w p : Int) := by
  have h1 := h.stem; have h2 := h.loop
  unfold spec_l6After nxN
  unfold plN at hp
  rw [l6Places_eq h, W, W_eq (by omega) (by omega)]
  unfold plN
  split <;> split <;> omega
theorem l3At_eq {w : TWord} (h : WOk w) {p : Nat} (hp : p < plN w) : spec_l3At w (p : Int) = some (letN w p : Int) := by
  have h1 := h.stem; have h2 := h.loop; have h3 := h.one
  unfold spec_l3At letN
  unfold plN at hp
  split
  · rename_i k
    have k' : p < w.stem.length := by omega
    have := h.ls p k'
    rw [ix_nat k', Option.bind_some, if_pos k', Int.toNat_of_nonneg this.1]
  · rename_i k
    have := h.ll (p - w.stem.length) (by omega)
    rw [decide_eq_true (by omega), chk_t, Option.bind_some, W, W_eq (by omega) (by omega), show (p : Int) - (w.stem.length : Int) = ((p - w.stem.length : Nat) : Int) by omega, ← Int.ofNat_tmod, Nat.mod_eq_of_lt (by omega), ix_nat (by omega), Option.bind_some, if_neg (by omega), Int.toNat_of_nonneg this.1]
end Go.Proofs.Ytjjlkncefgfljaa
end

/- Words, as the program tells them. -/
section
namespace Go.Proofs.Ytjjlkncefgfljaa
open Go Go.RowKit E
set_option linter.unusedVariables false

theorem implWordOk_eq (w : TWord) (n : Int) : impl_WordOk w n = some (wordOk w n) := by
  unfold impl_WordOk wordOk impl_isLetters
  rw [bnd_eq, bnd_eq, inRg, inRg]
  by_cases h1 : 1 ≤ n ∧ n ≤ 8
  · by_cases h2 : w.stem.length ≤ 40
    · by_cases h3 : 1 ≤ w.loop.length ∧ w.loop.length ≤ 40
      · rw [decide_eq_true h1, decide_eq_true h2, decide_eq_true h3, decide_eq_false (by omega : ¬ (w.stem.length : Int) > 40), decide_eq_true (by omega : 1 ≤ (w.loop.length : Int) ∧ (w.loop.length : Int) ≤ 40), if_neg (by simp), implLetters_eq _ _ (by omega), Option.bind_some]
        cases lettersOk w.stem n
        · rfl
        · rw [whenO_t, implLetters_eq _ _ (by omega)]; simp
      · rw [decide_eq_false (by omega : ¬ (1 ≤ (w.loop.length : Int) ∧ (w.loop.length : Int) ≤ 40)), decide_eq_false h3, if_pos (by simp)]; simp
    · rw [decide_eq_true (by omega : (w.stem.length : Int) > 40), decide_eq_false h2, if_pos (by simp)]; simp
  · rw [decide_eq_false h1, if_pos (by simp)]; simp
theorem isRight_eq (w : TWord) : impl_isRight w = some (wordOk w 8) := by unfold impl_isRight; rw [implWordOk_eq]; rfl
theorem places_eq {w : TWord} (h : WOk w) : impl_Word_places w = (plN w : Int) := by
  have := h.stem; have := h.loop
  unfold impl_Word_places plN
  rw [W, W_eq (by omega) (by omega)]; omega
theorem next_eq {w : TWord} (h : WOk w) {p : Nat} (hp : p < plN w) : impl_Word_next w (p : Int) = (nxN w p : Int) := by
  have h1 := h.stem; have h2 := h.loop
  unfold impl_Word_next nxN
  unfold plN at hp
  rw [places_eq h, W, W_eq (by omega) (by omega)]
  unfold plN
  split <;> split <;> omega
theorem letter_eq {w : TWord} (h : WOk w) {p : Nat} (hp : p < plN w) : impl_Word_letter w (p : Int) = some (letN w p : Int) := by
  have h1 := h.stem; have h2 := h.loop
  unfold impl_Word_letter letN
  unfold plN at hp
  split
  · rename_i k
    have k' : p < w.stem.length := by omega
    have := h.ls p k'
    rw [ix_nat k', Option.bind_some, if_pos k', Int.toNat_of_nonneg this.1]
  · rename_i k
    have := h.ll (p - w.stem.length) (by omega)
    rw [W, W_eq (by omega) (by omega), show (p : Int) - (w.stem.length : Int) = ((p - w.stem.length : Nat) : Int) by omega, ix_nat (by omega), Option.bind_some, if_neg (by omega), Int.toNat_of_nonneg this.1]
end Go.Proofs.Ytjjlkncefgfljaa
end

/- Trees of nodes: what both ways of telling them find. -/
section
namespace Go.Proofs.Ytjjlkncefgfljaa
open Go Go.RowKit E
set_option linter.unusedVariables false

/-- The sizes of the trees of all nodes, one node more. -/
def sizeStep (p : TNode → Int) (ss : List Int) (n : TNode) : Option (List Int) :=
  if p n = 0 then some (ss ++ [1])
  else if p n = 1 then (if 1 ≤ ss.length ∧ n.a = (ss.length : Int) - 1 ∧ n.b = 0 then some (ss ++ [1 + ss.getD (ss.length - 1) 0]) else none)
  else if p n = 2 then (if 1 ≤ ss.length ∧ n.b = (ss.length : Int) - 1 ∧ 0 ≤ (ss.length : Int) - 1 - ss.getD (ss.length - 1) 0 ∧ n.a = (ss.length : Int) - 1 - ss.getD (ss.length - 1) 0 then some (ss ++ [1 + ss.getD (ss.length - 1) 0 + ss.getD n.a.toNat 0]) else none)
  else none
def sizesFrom (p : TNode → Int) : List Int → List TNode → Option (List Int)
  | ss, [] => some ss
  | ss, n :: r => match sizeStep p ss n with
    | some ss' => sizesFrom p ss' r
    | none => none
def treeOk (p : TNode → Int) (e : List TNode) : Bool :=
  decide (1 ≤ e.length ∧ e.length ≤ 31) && match sizesFrom p [] e with
    | some ss => decide (ss.getD (e.length - 1) 0 = (e.length : Int))
    | none => false
/-- What sizes are right: none is below one, and none reaches further than to the first node. -/
def Sized (ss : List Int) : Prop := ∀ i, i < ss.length → 1 ≤ ss.getD i 0 ∧ ss.getD i 0 ≤ (i : Int) + 1
theorem Sized.nil : Sized [] := fun i h => by simp at h
theorem getD_app {ss : List Int} {x : Int} {i : Nat} : (ss ++ [x]).getD i 0 = if i < ss.length then ss.getD i 0 else if i = ss.length then x else 0 := by
  by_cases h : i < ss.length
  · rw [if_pos h]; simp [List.getD, List.getElem?_append_left h]
  · rw [if_neg h]
    by_cases k : i = ss.length
    · subst k; simp
    · rw [if_neg k]; simp [List.getD, List.getElem?_eq_none (by simp; omega : (ss ++ [x]).length ≤ i)]
theorem Sized.snoc {ss : List Int} (h : Sized ss) {x : Int} (h1 : 1 ≤ x) (h2 : x ≤ (ss.length : Int) + 1) : Sized (ss ++ [x]) := by
  intro i hi
  rw [getD_app]
  by_cases k : i < ss.length
  · rw [if_pos k]; exact h i k
  · have : i = ss.length := by simp at hi; omega
    rw [if_neg k, if_pos this]; omega
theorem sizeStep_sized {p : TNode → Int} {ss ss' : List Int} {n : TNode} (h : Sized ss) (hs : sizeStep p ss n = some ss') : Sized ss' ∧ ss'.length = ss.length + 1 := by
  unfold sizeStep at hs
  split at hs
  · cases hs; exact ⟨h.snoc (by omega) (by omega), by simp⟩
  · split at hs
    · split at hs
      · rename_i k; cases hs
        have := h (ss.length - 1) (by omega)
        exact ⟨h.snoc (by omega) (by omega), by simp⟩
      · cases hs
    · split at hs
      · split at hs
        · rename_i k; cases hs
          have h1 := h (ss.length - 1) (by omega)
          have h2 := h n.a.toNat (by omega)
          exact ⟨h.snoc (by omega) (by omega), by simp⟩
        · cases hs
      · cases hs

theorem getL {ss : List Int} {i : Int} (h : 0 ≤ i) (k : i < ss.length) : ix ss i = some (ss.getD i.toNat 0) := ix_ok h k

/-- The reference's sizes. -/
theorem l2Sizes_from (p : TNode → Int) (e : List TNode) (ps : List Int) (hps : ps.length = e.length) (he : e.length ≤ 31) (hp : ∀ i, i < e.length → ps.getD i 0 = p (e.getD i default) ∨ (ps.getD i 0 = 0 ∧ p (e.getD i default) ≠ 0 ∧ p (e.getD i default) ≠ 1 ∧ p (e.getD i default) ≠ 2 ∧ (e.getD i default).b ≠ 0))
    (hq : ∀ i, i < e.length → ps.getD i 0 = 0 ∨ ps.getD i 0 = 1 ∨ ps.getD i 0 = 2) (hb : ∀ n, p n = 0 → n.b = 0) :
    ∀ (r pre : List TNode) (ss : List Int), e = pre ++ r → ss.length = pre.length → Sized ss →
      loop (fun s : List Int × Int => spec_l2Sizes.b0 e ps s.1 s.2) (ss, (pre.length : Int)) = some (match sizesFrom p ss r with | some s => .inl s | none => .inr []) := by
  intro r
  induction r with
  | nil =>
    intro pre ss h hl hS
    refine loop_end ?_
    unfold spec_l2Sizes.b0
    rw [if_neg (by rw [h]; simp)]; rfl
  | cons n r ih =>
    intro pre ss h hl hS
    have hk : pre.length < e.length := by rw [h]; simp
    have hn : e.getD pre.length default = n := by rw [h]; simp
    have hix : ix e (pre.length : Int) = some n := by rw [ix_nat hk, hn]
    have hp0 := hp _ hk
    have hq0 := hq _ hk
    have hixp : ix ps (pre.length : Int) = some (ps.getD pre.length 0) := ix_nat (by omega)
    rw [hn] at hp0
    have go : ∀ x, sizeStep p ss n = some (ss ++ [x]) → spec_l2Sizes.b0 e ps ss (pre.length : Int) = some (.inl (ss ++ [x], ((pre.length + 1 : Nat) : Int))) →
        loop (fun s : List Int × Int => spec_l2Sizes.b0 e ps s.1 s.2) (ss, (pre.length : Int)) = some (match sizesFrom p ss (n :: r) with | some s => .inl s | none => .inr []) := by
      intro x h1 h2
      rw [loop_go h2]
      have := ih (pre ++ [n]) (ss ++ [x]) (by rw [h]; simp) (by simp [hl]) (sizeStep_sized hS h1).1
      simp only [List.length_append, List.length_singleton] at this
      rw [this]
      simp only [sizesFrom, h1]
    have stop : sizeStep p ss n = none → spec_l2Sizes.b0 e ps ss (pre.length : Int) = some (.inr (.inr [])) →
        loop (fun s : List Int × Int => spec_l2Sizes.b0 e ps s.1 s.2) (ss, (pre.length : Int)) = some (match sizesFrom p ss (n :: r) with | some s => .inl s | none => .inr []) := by
      intro h1 h2
      rw [loop_end h2]; simp only [sizesFrom, h1]
    have happ : ∀ x, app 8 ss [x] = some (ss ++ [x]) := fun x => app_small (by simp; omega) (by omega)
    have hw : IntKind.i64.wrap ((pre.length : Int) + 1) = ((pre.length + 1 : Nat) : Int) := W_nat (by omega)
    have hw1 : IntKind.i64.wrap ((pre.length : Int) - 1) = (pre.length : Int) - 1 := W_eq (by omega) (by omega)
    have unf : spec_l2Sizes.b0 e ps ss (pre.length : Int) = spec_l2Sizes.b0 e ps ss (pre.length : Int) := rfl
    unfold spec_l2Sizes.b0 at go stop
    simp only [if_pos (show (pre.length : Int) < (e.length : Int) by omega), hix, hixp, Option.bind_some, bnd, W, hw, hw1] at go stop
    have hlast : 1 ≤ pre.length → 1 ≤ ss.getD (pre.length - 1) 0 ∧ ss.getD (pre.length - 1) 0 ≤ (pre.length : Int) := fun g => by
      have := hS (pre.length - 1) (by omega); omega
    have hlx : 1 ≤ pre.length → ix ss ((pre.length : Int) - 1) = some (ss.getD (pre.length - 1) 0) := fun g => by
      rw [getL (by omega) (by omega), show ((pre.length : Int) - 1).toNat = pre.length - 1 by omega]
    generalize hz : ss.getD (pre.length - 1) 0 = z at *
    have hz' : ss.getD (ss.length - 1) 0 = z := by rw [hl]; exact hz
    rcases hq0 with q0 | q0 | q0
    · rw [q0] at go stop hp0
      by_cases hb0 : n.b = 0
      · have hp1 : p n = 0 := by
          rcases hp0 with g | g
          · exact g.symm
          · exact absurd hb0 g.2.2.2.2
        exact go 1 (by simp [sizeStep, hp1]) (by simp [hb0, happ])
      · have hp1 : p n ≠ 0 ∧ p n ≠ 1 ∧ p n ≠ 2 := by
          rcases hp0 with g | g
          · exact absurd (hb n g.symm) hb0
          · exact ⟨g.2.1, g.2.2.1, g.2.2.2.1⟩
        exact stop (by simp [sizeStep, hp1]) (by simp [hb0])
    · rw [q0] at go stop hp0
      have hp1 : p n = 1 := by
        rcases hp0 with g | g
        · exact g.symm
        · exact absurd g.1 (by omega)
      by_cases hc : 1 ≤ pre.length ∧ n.a = (pre.length : Int) - 1 ∧ n.b = 0
      · obtain ⟨c1, c2, c3⟩ := hc
        have hl1 := hlast c1
        have hw2 : IntKind.i64.wrap (1 + z) = 1 + z := W_eq (by omega) (by omega)
        refine go (1 + z) (by unfold sizeStep; rw [if_neg (by omega), if_pos hp1, hz', if_pos (by rw [hl]; omega)]) ?_
        rw [if_pos rfl, if_neg (by simp; omega), hlx c1]
        simp only [Option.bind_some, hw2, happ]
      · refine stop (by unfold sizeStep; rw [if_neg (by omega), if_pos hp1, if_neg (by rw [hl]; omega)]) ?_
        rw [if_pos rfl, if_pos (by simp; omega)]
    · rw [q0] at go stop hp0
      have hp1 : p n = 2 := by
        rcases hp0 with g | g
        · exact g.symm
        · exact absurd g.1 (by omega)
      rw [if_neg (by omega), if_pos rfl] at stop
      simp only [if_neg (show ¬ (2 : Int) = 1 by omega), if_pos] at go
      by_cases c1 : 2 ≤ pre.length ∧ n.b = (pre.length : Int) - 1
      · have hl1 := hlast (by omega)
        have hw2 : IntKind.i64.wrap ((pre.length : Int) - 1 - z) = (pre.length : Int) - 1 - z := W_eq (by omega) (by omega)
        rw [if_neg (by simp; omega), hlx (by omega), Option.bind_some, hw2] at stop
        simp only [hlx (show 1 ≤ pre.length by omega), Option.bind_some, hw2] at go
        by_cases c2 : 0 ≤ (pre.length : Int) - 1 - z ∧ n.a = (pre.length : Int) - 1 - z
        · have hx : ix ss ((pre.length : Int) - 1 - z) = some (ss.getD n.a.toNat 0) := by rw [getL (by omega) (by omega), c2.2]
          have h2 := hS n.a.toNat (by omega)
          have hw3 : IntKind.i64.wrap (1 + z) = 1 + z := W_eq (by omega) (by omega)
          have hw4 : IntKind.i64.wrap (1 + z + ss.getD n.a.toNat 0) = 1 + z + ss.getD n.a.toNat 0 := W_eq (by omega) (by omega)
          refine go (1 + z + ss.getD n.a.toNat 0) ?_ ?_
          · unfold sizeStep
            rw [if_neg (by omega), if_neg (by omega), if_pos hp1, hz', if_pos (by rw [hl]; omega)]
          · rw [if_neg (by simp; omega), if_neg (by simp; omega), hx]
            simp only [Option.bind_some, hw3, hw4, happ]
        · refine stop ?_ ?_
          · unfold sizeStep
            rw [if_neg (by omega), if_neg (by omega), if_pos hp1, hz', if_neg (by rw [hl]; omega)]
          · rw [if_pos (by simp; omega)]
      · refine stop ?_ ?_
        · unfold sizeStep
          rw [if_neg (by omega), if_neg (by omega), if_pos hp1, hz', if_neg]
          rw [hl]
          rintro ⟨g1, g2, g3, g4⟩
          have := hlast (by omega)
          exact c1 ⟨by omega, g2⟩
        · rw [if_pos (by simp; omega)]

/-- Where the trees of the first nodes begin; 0 behind them. -/
def begL (ss : List Int) (m : Nat) : List Int := ss.mapIdx (fun j s => (j : Int) + 1 - s) ++ List.replicate (m - ss.length) 0
theorem begL_len (ss : List Int) (m : Nat) (h : ss.length ≤ m) : (begL ss m).length = m := by unfold begL; simp; omega
theorem begL_get {ss : List Int} {m i : Nat} (h : i < ss.length) : (begL ss m).getD i 0 = (i : Int) + 1 - ss.getD i 0 := by
  unfold begL
  rw [List.getD_eq_getElem?_getD, List.getElem?_append_left (by simpa using h)]
  simp [h]
theorem begL_set {ss : List Int} {m : Nat} {x z : Int} (h : ss.length < m) (hx : z = (ss.length : Int) + 1 - x) : (begL ss m).set ss.length z = begL (ss ++ [x]) m := by
  unfold begL
  rw [List.set_append_right _ _ (by simp), List.mapIdx_append, show m - ss.length = (m - (ss.length + 1)) + 1 by omega, List.replicate_succ]
  simp [hx]
theorem begins_from (p : TNode → Int) (e : List TNode) (he : e.length ≤ 31) :
    ∀ (r pre : List TNode) (ss : List Int), e = pre ++ r → ss.length = pre.length → Sized ss →
      loop (fun s : List Int × Int => impl_begins.b0 e (fun n => some (p n)) s.1 s.2) (begL ss e.length, (pre.length : Int)) = some (match sizesFrom p ss r with | some s => .inl (begL s e.length) | none => .inr ([], false)) := by
  intro r
  induction r with
  | nil =>
    intro pre ss h hl hS
    refine loop_end ?_
    unfold impl_begins.b0
    rw [if_neg (by rw [h]; simp)]; rfl
  | cons n r ih =>
    intro pre ss h hl hS
    have hk : pre.length < e.length := by rw [h]; simp
    have hn : e.getD pre.length default = n := by rw [h]; simp
    have hix : ix e (pre.length : Int) = some n := by rw [ix_nat hk, hn]
    have hbl := begL_len ss e.length (by omega)
    have hck : ck (pre.length : Int) (begL ss e.length).length = some pre.length := ck_nat (by omega)
    have go : ∀ x, sizeStep p ss n = some (ss ++ [x]) → impl_begins.b0 e (fun n => some (p n)) (begL ss e.length) (pre.length : Int) = some (.inl (begL (ss ++ [x]) e.length, ((pre.length + 1 : Nat) : Int))) →
        loop (fun s : List Int × Int => impl_begins.b0 e (fun n => some (p n)) s.1 s.2) (begL ss e.length, (pre.length : Int)) = some (match sizesFrom p ss (n :: r) with | some s => .inl (begL s e.length) | none => .inr ([], false)) := by
      intro x h1 h2
      rw [loop_go h2]
      have := ih (pre ++ [n]) (ss ++ [x]) (by rw [h]; simp) (by simp [hl]) (sizeStep_sized hS h1).1
      simp only [List.length_append, List.length_singleton] at this
      rw [this]
      simp only [sizesFrom, h1]
    have stop : sizeStep p ss n = none → impl_begins.b0 e (fun n => some (p n)) (begL ss e.length) (pre.length : Int) = some (.inr (.inr ([], false))) →
        loop (fun s : List Int × Int => impl_begins.b0 e (fun n => some (p n)) s.1 s.2) (begL ss e.length, (pre.length : Int)) = some (match sizesFrom p ss (n :: r) with | some s => .inl (begL s e.length) | none => .inr ([], false)) := by
      intro h1 h2
      rw [loop_end h2]; simp only [sizesFrom, h1]
    have hw : IntKind.i64.wrap ((pre.length : Int) + 1) = ((pre.length + 1 : Nat) : Int) := W_nat (by omega)
    have hw1 : IntKind.i64.wrap ((pre.length : Int) - 1) = (pre.length : Int) - 1 := W_eq (by omega) (by omega)
    unfold impl_begins.b0 at go stop
    simp only [if_pos (show (pre.length : Int) < (e.length : Int) by omega), hix, hck, Option.bind_some, bnd, W, hw, hw1] at go stop
    have hlast : 1 ≤ pre.length → 1 ≤ ss.getD (pre.length - 1) 0 ∧ ss.getD (pre.length - 1) 0 ≤ (pre.length : Int) := fun g => by
      have := hS (pre.length - 1) (by omega); omega
    have hset : ∀ z x : Int, z = (ss.length : Int) + 1 - x → ((begL ss e.length).set pre.length (pre.length : Int)).set pre.length z = begL (ss ++ [x]) e.length := by
      intro z x hz
      rw [List.set_set, ← hl]; exact begL_set (by omega) hz
    have hset1 : (begL ss e.length).set pre.length (pre.length : Int) = begL (ss ++ [1]) e.length := by
      have := begL_set (ss := ss) (m := e.length) (x := 1) (z := (ss.length : Int)) (by omega) (by omega)
      rw [hl] at this; exact this
    have hls : ∀ z : Int, ((begL ss e.length).set pre.length z).length = e.length := fun z => by simp [hbl]
    have hget : ∀ i : Nat, i < pre.length → ix ((begL ss e.length).set pre.length (pre.length : Int)) (i : Int) = some ((i : Int) + 1 - ss.getD i 0) := by
      intro i hi
      rw [ix_nat (by rw [hls]; omega), ← begL_get (m := e.length) (by omega)]
      simp [List.getD, List.getElem?_set_ne (show pre.length ≠ i by omega)]
    have hck2 : ck (pre.length : Int) ((begL ss e.length).set pre.length (pre.length : Int)).length = some pre.length := ck_nat (by rw [hls]; omega)
    generalize hz : ss.getD (pre.length - 1) 0 = z at *
    have hz' : ss.getD (ss.length - 1) 0 = z := by rw [hl]; exact hz
    by_cases q0 : p n = 0
    · exact go 1 (by simp [sizeStep, q0]) (by rw [if_pos q0, hset1])
    rw [if_neg q0] at stop
    simp only [if_neg q0] at go
    by_cases q1 : p n = 1
    · rw [if_pos q1] at stop
      simp only [if_pos q1] at go
      by_cases hc : 1 ≤ pre.length ∧ n.a = (pre.length : Int) - 1 ∧ n.b = 0
      · obtain ⟨c1, c2, c3⟩ := hc
        refine go (1 + z) (by unfold sizeStep; rw [if_neg (by omega), if_pos q1, hz', if_pos (by rw [hl]; omega)]) ?_
        have hg := hget (pre.length - 1) (by omega)
        rw [show ((pre.length - 1 : Nat) : Int) = n.a by omega, hz] at hg
        rw [if_neg (by simp only [Bool.or_eq_true, decide_eq_true_eq]; omega), hg]
        simp only [Option.bind_some, hck2]
        rw [hset _ (1 + z) (by omega)]
      · exact stop (by unfold sizeStep; rw [if_neg (by omega), if_pos q1, if_neg (by rw [hl]; omega)]) (by rw [if_pos (by simp only [Bool.or_eq_true, decide_eq_true_eq]; omega)])
    rw [if_neg q1] at stop
    simp only [if_neg q1] at go
    by_cases q2 : p n = 2
    · rw [if_pos q2] at stop
      simp only [if_pos q2] at go
      by_cases c1 : 1 ≤ pre.length ∧ n.b = (pre.length : Int) - 1
      · have hl1 := hlast (by omega)
        have hg := hget (pre.length - 1) (by omega)
        rw [show ((pre.length - 1 : Nat) : Int) = (pre.length : Int) - 1 by omega, hz] at hg
        have hfalse : (decide ((pre.length : Int) = 0) || decide (n.b ≠ (pre.length : Int) - 1)) = false := by rw [Bool.or_eq_false_iff, decide_eq_false_iff_not, decide_eq_false_iff_not]; omega
        have hw2 : IntKind.i64.wrap ((pre.length : Int) - 1 + 1 - z - 1) = (pre.length : Int) - 1 - z := by rw [W_eq (by omega) (by omega)]; omega
        simp only [hfalse, Bool.not_false, whenO_t, hg, Option.bind_some, hw2, Bool.false_or] at go stop
        by_cases c2 : 0 ≤ (pre.length : Int) - 1 - z ∧ n.a = (pre.length : Int) - 1 - z
        · have h2 := hS n.a.toNat (by omega)
          have hg2 := hget n.a.toNat (by omega)
          rw [show ((n.a.toNat : Nat) : Int) = n.a by omega] at hg2
          refine go (1 + z + ss.getD n.a.toNat 0) (by unfold sizeStep; rw [if_neg (by omega), if_neg (by omega), if_pos q2, hz', if_pos (by rw [hl]; omega)]) ?_
          rw [if_neg (by simp only [Bool.or_eq_true, decide_eq_true_eq]; omega), hg2]
          simp only [Option.bind_some, hck2]
          rw [hset _ (1 + z + ss.getD n.a.toNat 0) (by omega)]
        · exact stop (by unfold sizeStep; rw [if_neg (by omega), if_neg (by omega), if_pos q2, hz', if_neg (by rw [hl]; omega)]) (by rw [if_pos (by simp only [Bool.or_eq_true, decide_eq_true_eq]; omega)])
      · have htrue : (decide ((pre.length : Int) = 0) || decide (n.b ≠ (pre.length : Int) - 1)) = true := by simp only [Bool.or_eq_true, decide_eq_true_eq]; omega
        simp only [htrue, Bool.not_true, whenO_f, Option.bind_some, Bool.true_or, if_true] at stop
        exact stop (by unfold sizeStep; rw [if_neg (by omega), if_neg (by omega), if_pos q2, if_neg (by rw [hl]; omega)]) (by first | trivial | rfl)
    · rw [if_neg q2] at stop
      exact stop (by unfold sizeStep; rw [if_neg q0, if_neg q1, if_neg q2]) rfl

theorem sizesFrom_sized {p : TNode → Int} : ∀ {r : List TNode} {ss s : List Int}, Sized ss → sizesFrom p ss r = some s → Sized s ∧ s.length = ss.length + r.length
  | [], ss, s, h, hs => by cases hs; exact ⟨h, by simp⟩
  | n :: r, ss, s, h, hs => by
    unfold sizesFrom at hs
    split at hs
    · rename_i ss' h1
      obtain ⟨g1, g2⟩ := sizeStep_sized h h1
      obtain ⟨k1, k2⟩ := sizesFrom_sized g1 hs
      exact ⟨k1, by simp; omega⟩
    · cases hs
theorem inRange_eq (x a b : Int) : impl_inRange x a b = decide (a ≤ x ∧ x ≤ b) := inR
theorem l1In_eq (x a b : Int) : spec_l1In x a b = decide (a ≤ x ∧ x ≤ b) := inR
theorem isTree_eq (p : TNode → Int) (e : List TNode) : impl_isTree e (fun n => some (p n)) = some (treeOk p e) := by
  unfold impl_isTree impl_begins treeOk
  rw [inRange_eq]
  by_cases h : 1 ≤ e.length ∧ e.length ≤ 31
  · rw [if_neg (by simp; omega), mk_ok (by omega) (by omega), Option.bind_some, Int.toNat_natCast]
    have h1 := begins_from p e h.2 e [] [] rfl rfl Sized.nil
    have h0 : begL [] e.length = List.replicate e.length 0 := by simp [begL]
    rw [h0] at h1
    simp only [List.length_nil, Int.natCast_zero] at h1
    rw [h1]
    cases hs : sizesFrom p [] e with
    | none => simp
    | some s =>
      obtain ⟨k1, k2⟩ := sizesFrom_sized Sized.nil hs
      simp only [List.length_nil, Nat.zero_add] at k2
      have hbl := begL_len s e.length (by omega)
      simp only [Option.bind_some, Sum.elim_inl, impl_begins.k0, W]
      rw [W_eq (by omega) (by omega), show ((e.length : Int) - 1) = ((e.length - 1 : Nat) : Int) by omega, ix_nat (by omega), Option.bind_some, show (default : Int) = 0 from rfl, begL_get (by omega)]
      simp only [Option.bind_some, h, and_self, decide_true, Bool.true_and, Option.some.injEq]
      rw [decide_eq_decide]; omega
  · rw [if_pos (by simp; omega)]; simp; omega

theorem sizesFrom_bad {p : TNode → Int} : ∀ {r : List TNode} {ss : List Int}, (∃ n ∈ r, p n ≠ 0 ∧ p n ≠ 1 ∧ p n ≠ 2) → sizesFrom p ss r = none
  | [], ss, ⟨n, h, _⟩ => by simp at h
  | m :: r, ss, ⟨n, h, k⟩ => by
    unfold sizesFrom
    rcases List.mem_cons.mp h with rfl | h
    · have : sizeStep p ss n = none := by unfold sizeStep; rw [if_neg k.1, if_neg k.2.1, if_neg k.2.2]
      rw [this]
    · split
      · exact sizesFrom_bad ⟨n, h, k⟩
      · rfl
/-- The numbers of parts, told one by one. -/
theorem parts_loop (bad : TNode → Bool) (q : TNode → Int) (e : List TNode) (hl : e.length ≤ 31) :
    loop (fun s : List Int × Int => if s.2 < (e.length : Int) then (ix e s.2).bind fun n => if bad n = true then some (.inr (.inr false)) else (app 8 s.1 [q n]).bind fun z => some (.inl (z, W (s.2 + 1))) else some (.inr (.inl s.1))) ([], 0)
      = some (if e.any bad = true then (.inr false : List Int ⊕ Bool) else .inl (e.map q)) := by
  have key : ∀ (r pre : List TNode), e = pre ++ r → loop (fun s : List Int × Int => if s.2 < (e.length : Int) then (ix e s.2).bind fun n => if bad n = true then some (.inr (.inr false)) else (app 8 s.1 [q n]).bind fun z => some (.inl (z, W (s.2 + 1))) else some (.inr (.inl s.1))) (pre.map q, (pre.length : Int))
      = some (if r.any bad = true then (.inr false : List Int ⊕ Bool) else .inl (e.map q)) := by
    intro r
    induction r with
    | nil => intro pre h; refine loop_end ?_; dsimp only; rw [if_neg (by rw [h]; simp)]; simp [h]
    | cons n r ih =>
      intro pre h
      have hk : pre.length < e.length := by rw [h]; simp
      have hix : ix e (pre.length : Int) = some n := by rw [ix_nat hk, h]; simp
      by_cases hb : bad n = true
      · rw [loop_end (r := .inr false)]
        · simp [hb]
        · dsimp only; rw [if_pos (by omega), hix, Option.bind_some, if_pos hb]
      · rw [loop_go (s' := ((pre ++ [n]).map q, ((pre ++ [n]).length : Int)))]
        · rw [ih (pre ++ [n]) (by rw [h]; simp)]
          simp [hb]
        · dsimp only
          rw [if_pos (by omega), hix, Option.bind_some, if_neg hb, app_small (by simp; omega) (by omega), Option.bind_some, W, W_nat (by omega)]
          simp
  have := key e [] rfl
  simpa using this
/-- The reference's last part: sizes out of the parts told. -/
theorem sizes_end (p q : TNode → Int) (e : List TNode) (h1 : 1 ≤ e.length) (h2 : e.length ≤ 31) (hp : ∀ n ∈ e, q n = p n ∨ (q n = 0 ∧ p n ≠ 0 ∧ p n ≠ 1 ∧ p n ≠ 2 ∧ n.b ≠ 0)) (hq : ∀ n ∈ e, q n = 0 ∨ q n = 1 ∨ q n = 2) (hb : ∀ n, p n = 0 → n.b = 0) :
    ((spec_l2Sizes e (e.map q)).bind fun a59 => bnd ((decide (((a59.length : Int)) = ((e.length : Int))))) fun c65 => (whenO c65 (ix a59 ((W (((e.length : Int)) - 1))))).bind fun a70 => some ((c65 && (decide (a70 = ((e.length : Int))))))) = some (treeOk p e) := by
  have hd : ∀ i, i < e.length → (e.map q).getD i 0 = q (e.getD i default) ∧ e.getD i default ∈ e := fun i hi => by
    refine ⟨by simp [hi], ?_⟩
    have : e.getD i default = e[i] := by simp [hi]
    rw [this]; exact List.getElem_mem hi
  have h := l2Sizes_from p e (e.map q) (by simp) h2 (fun i hi => by obtain ⟨g1, g2⟩ := hd i hi; rw [g1]; exact hp _ g2) (fun i hi => by obtain ⟨g1, g2⟩ := hd i hi; rw [g1]; exact hq _ g2) hb e [] [] rfl rfl Sized.nil
  simp only [List.length_nil, Int.natCast_zero] at h
  unfold spec_l2Sizes
  rw [h]
  unfold treeOk
  cases hs : sizesFrom p [] e with
  | none =>
    simp only [Option.bind_some, Sum.elim_inr, bnd]
    have : decide ((([] : List Int).length : Int) = (e.length : Int)) = false := by simp; omega
    rw [this]; simp [whenO_f]
  | some s =>
    obtain ⟨k1, k2⟩ := sizesFrom_sized Sized.nil hs
    simp only [List.length_nil, Nat.zero_add] at k2
    simp only [Option.bind_some, Sum.elim_inl, spec_l2Sizes.k0, bnd]
    have : decide ((s.length : Int) = (e.length : Int)) = true := by simp; omega
    rw [this, whenO_t, W, W_eq (by omega) (by omega), show ((e.length : Int) - 1) = ((e.length - 1 : Nat) : Int) by omega, ix_nat (by omega)]
    simp only [Option.bind_some, h1, h2, and_self, decide_true, Bool.true_and]
    rfl
end Go.Proofs.Ytjjlkncefgfljaa
end

/- Trees of nodes: where the parts of a node lie; what is told of each node by its parts. -/
section
namespace Go.Proofs.Ytjjlkncefgfljaa
open Go Go.RowKit E
set_option linter.unusedVariables false

/-- A node at place i has its parts ahead of it. -/
def NodeAt (p : TNode → Int) (i : Nat) (n : TNode) : Prop :=
  p n = 0 ∨ (p n = 1 ∧ 1 ≤ i ∧ n.a = (i : Int) - 1 ∧ n.b = 0) ∨ (p n = 2 ∧ 1 ≤ i ∧ n.b = (i : Int) - 1 ∧ 0 ≤ n.a ∧ n.a < (i : Int) - 1)
theorem sizeStep_node {p : TNode → Int} {ss ss' : List Int} {n : TNode} (hS : Sized ss) (h : sizeStep p ss n = some ss') : NodeAt p ss.length n := by
  unfold sizeStep at h
  split at h
  · rename_i k; exact .inl k
  · split at h
    · rename_i k
      split at h
      · rename_i g; exact .inr (.inl ⟨k, g.1, g.2.1, g.2.2⟩)
      · cases h
    · split at h
      · rename_i k
        split at h
        · rename_i g
          have := hS (ss.length - 1) (by omega)
          exact .inr (.inr ⟨k, g.1, g.2.1, by omega, by omega⟩)
        · cases h
      · cases h
theorem sizesFrom_nodes {p : TNode → Int} : ∀ {r : List TNode} {ss s : List Int}, Sized ss → sizesFrom p ss r = some s → ∀ i, i < r.length → NodeAt p (ss.length + i) (r.getD i default)
  | [], _, _, _, _, i, hi => by simp at hi
  | n :: r, ss, s, hS, h, i, hi => by
    unfold sizesFrom at h
    split at h
    · rename_i ss' h1
      obtain ⟨g1, g2⟩ := sizeStep_sized hS h1
      cases i with
      | zero => exact sizeStep_node hS h1
      | succ i =>
        have := sizesFrom_nodes g1 h i (by simpa using hi)
        rw [g2] at this
        simpa [Nat.add_assoc, Nat.add_comm 1 i] using this
    · cases h
/-- A right tree: its nodes. -/
def Nodes (p : TNode → Int) (e : List TNode) : Prop := 1 ≤ e.length ∧ e.length ≤ 31 ∧ ∀ i, i < e.length → NodeAt p i (e.getD i default)
theorem treeOk_nodes {p : TNode → Int} {e : List TNode} (h : treeOk p e = true) : Nodes p e := by
  unfold treeOk at h
  rw [Bool.and_eq_true, decide_eq_true_eq] at h
  obtain ⟨h1, h2⟩ := h
  cases hs : sizesFrom p [] e with
  | none => rw [hs] at h2; cases h2
  | some s =>
    refine ⟨h1.1, h1.2, fun i hi => ?_⟩
    have := sizesFrom_nodes Sized.nil hs i hi
    simpa using this

/-- What is told of each node, by what is told of those ahead. -/
def accum {β : Type} (f : TNode → List β → β) : List β → List TNode → List β
  | ts, [] => ts
  | ts, n :: r => accum f (ts ++ [f n ts]) r
theorem accum_len {β : Type} (f : TNode → List β → β) : ∀ (r : List TNode) (ts : List β), (accum f ts r).length = ts.length + r.length
  | [], ts => by simp [accum]
  | n :: r, ts => by rw [accum, accum_len f r]; simp; omega
theorem accum_app {β : Type} (f : TNode → List β → β) : ∀ (r s : List TNode) (ts : List β), accum f ts (r ++ s) = accum f (accum f ts r) s
  | [], s, ts => rfl
  | n :: r, s, ts => by rw [List.cons_append, accum, accum_app f r s, accum]
theorem accum_pre {β : Type} (f : TNode → List β → β) : ∀ (r : List TNode) (ts : List β), ∃ us, accum f ts r = ts ++ us
  | [], ts => ⟨[], by simp [accum]⟩
  | n :: r, ts => by
    obtain ⟨us, h⟩ := accum_pre f r (ts ++ [f n ts])
    exact ⟨f n ts :: us, by rw [accum, h]; simp⟩
/-- The i-th thing told. -/
theorem accum_get {β : Type} (f : TNode → List β → β) (d : β) (e : List TNode) {i : Nat} (hi : i < e.length) : (accum f [] e).getD i d = f (e.getD i default) (accum f [] (e.take i)) := by
  have h : e = e.take i ++ e.getD i default :: e.drop (i + 1) := by
    have : e.getD i default = e[i] := by simp [hi]
    rw [this]; simp
  have hl : (accum f [] (e.take i)).length = i := by rw [accum_len]; simp; omega
  obtain ⟨us, hu⟩ := accum_pre f (e.drop (i + 1)) (accum f [] (e.take i) ++ [f (e.getD i default) (accum f [] (e.take i))])
  have : accum f [] e = accum f [] (e.take i) ++ f (e.getD i default) (accum f [] (e.take i)) :: us := by
    conv => lhs; rw [h]
    rw [accum_app, accum, hu]; simp
  rw [this, List.getD_eq_getElem?_getD, List.getElem?_append_right (by omega), hl]
  simp
theorem accum_take {β : Type} (f : TNode → List β → β) (d : β) (e : List TNode) {i j : Nat} (hi : i ≤ e.length) (hj : j < i) : (accum f [] (e.take i)).getD j d = (accum f [] e).getD j d := by
  have hl : (accum f [] (e.take i)).length = i := by rw [accum_len]; simp; omega
  obtain ⟨us, hu⟩ := accum_pre f (e.drop i) (accum f [] (e.take i))
  have : accum f [] e = accum f [] (e.take i) ++ us := by
    rw [← hu, ← accum_app, List.take_append_drop]
  rw [this, List.getD_eq_getElem?_getD, List.getD_eq_getElem?_getD, List.getElem?_append_left (by omega)]
theorem accum_snoc {β : Type} (f : TNode → List β → β) (e : List TNode) {i : Nat} (hi : i < e.length) : accum f [] (e.take (i + 1)) = accum f [] (e.take i) ++ [f (e.getD i default) (accum f [] (e.take i))] := by
  have : e.getD i default = e[i] := by simp [hi]
  rw [List.take_succ_eq_append_getElem hi, accum_app, accum, accum, this]
end Go.Proofs.Ytjjlkncefgfljaa
end

/- What a node of a formula says, by its parts, the letter, and what is so from the next place on. -/
section
namespace Go.Proofs.Ytjjlkncefgfljaa
open Go Go.RowKit E
set_option linter.unusedVariables false

def soV (n : TNode) (ts : List Bool) (l : Nat) (bit : Bool) : Bool :=
  if n.kind = 1 then true else if n.kind = 3 then l.testBit n.a.toNat else if n.kind = 4 then !(ts.getD n.a.toNat default)
  else if n.kind = 5 then (ts.getD n.a.toNat default && ts.getD n.b.toNat default) else if n.kind = 6 then (ts.getD n.a.toNat default || ts.getD n.b.toNat default)
  else if n.kind = 7 then bit else if n.kind = 8 then (ts.getD n.b.toNat default || (ts.getD n.a.toNat default && bit))
  else if n.kind = 9 then (ts.getD n.b.toNat default && (ts.getD n.a.toNat default || bit))
  else if n.kind = 10 then (ts.getD n.a.toNat default || bit) else if n.kind = 11 then (ts.getD n.a.toNat default && bit) else false
end Go.Proofs.Ytjjlkncefgfljaa
end

/- Formulas: the program and the reference find the same ones right. -/
section
namespace Go.Proofs.Ytjjlkncefgfljaa
open Go Go.RowKit E
set_option linter.unusedVariables false

theorem lleaf_eq (n : TNode) (m : Int) : impl_leaf n m = if n.b = 0 ∧ 0 ≤ n.a ∧ n.a ≤ m then 0 else -1 := by
  unfold impl_leaf
  simp only [bnd, inRange_eq, Bool.and_eq_true, decide_eq_true_eq]
noncomputable abbrev ltP : TNode → Int := impl_ltlParts
theorem ltP_eq (n : TNode) : ltP n = if n.kind = 1 ∨ n.kind = 2 then (if n.b = 0 ∧ n.a = 0 then 0 else -1) else if n.kind = 3 then (if n.b = 0 ∧ 0 ≤ n.a ∧ n.a ≤ 2 then 0 else -1) else if n.kind = 4 ∨ n.kind = 7 ∨ n.kind = 10 ∨ n.kind = 11 then 1 else if n.kind = 5 ∨ n.kind = 6 ∨ n.kind = 8 ∨ n.kind = 9 then 2 else -1 := by
  unfold ltP impl_ltlParts impl_exprParts impl_exprParts.k0
  simp only [lleaf_eq, decide_eq_true_eq]
  (repeat' split) <;> first | rfl | omega
theorem l8Parts_eq (k : Int) : spec_l8Parts k = if k = 1 ∨ k = 2 ∨ k = 3 then 0 else if k = 4 ∨ k = 7 ∨ k = 10 ∨ k = 11 then 1 else if k = 5 ∨ k = 6 ∨ k = 8 ∨ k = 9 then 2 else -1 := by
  unfold spec_l8Parts spec_l8Parts.k0 spec_l8Parts.k1
  simp only [decide_eq_true_eq]
  (repeat' split) <;> first | rfl | omega
theorem l2Leaf_eq (n : TNode) : spec_l2Leaf n = decide ((n.kind = 3 ∧ 0 ≤ n.a ∧ n.a ≤ 2) ∨ (n.kind ≠ 3 ∧ n.a = 0)) := by
  unfold spec_l2Leaf
  simp only [l1In_eq]
  split <;> rw [decide_eq_decide] <;> omega
noncomputable def ltBad (n : TNode) : Bool := decide (spec_l8Parts n.kind < 0) || (decide (spec_l8Parts n.kind = 0) && !(spec_l2Leaf n))
theorem ltBad_iff (n : TNode) : ltBad n = true ↔ ¬ ((n.kind = 1 ∨ n.kind = 2) ∧ n.a = 0 ∨ n.kind = 3 ∧ 0 ≤ n.a ∧ n.a ≤ 2 ∨ (4 ≤ n.kind ∧ n.kind ≤ 11)) := by
  unfold ltBad
  rw [l2Leaf_eq, l8Parts_eq]
  simp only [Bool.or_eq_true, Bool.and_eq_true, decide_eq_true_eq, Bool.not_eq_true', decide_eq_false_iff_not]
  split
  · omega
  · split
    · omega
    · split <;> omega
theorem specLtlOk_eq (e : List TNode) : spec_LtlOk e = some (treeOk ltP e) := by
  unfold spec_LtlOk
  rw [l1In_eq]
  by_cases h : 1 ≤ e.length ∧ e.length ≤ 31
  · rw [if_neg (by simp; omega)]
    have h1 := parts_loop ltBad (fun n => spec_l8Parts n.kind) e h.2
    have h2 : loop (fun s : List Int × Int => spec_LtlOk.b0 e s.1 s.2) ([], 0) = some (if e.any ltBad = true then (.inr false : List Int ⊕ Bool) else .inl (e.map fun n => spec_l8Parts n.kind)) := by
      rw [← h1]
      congr 1
      funext s
      unfold spec_LtlOk.b0
      split
      · cases ix e s.2 with
        | none => rfl
        | some a =>
          simp only [Option.bind_some, bnd_eq]
          unfold ltBad
          by_cases c1 : spec_l8Parts a.kind < 0
          · rw [decide_eq_true c1, Bool.not_true, Bool.false_and, whenO_f]; rfl
          · rw [decide_eq_false c1, Bool.not_false, Bool.true_and]
            by_cases c2 : spec_l8Parts a.kind = 0
            · rw [decide_eq_true c2, whenO_t]; rfl
            · rw [decide_eq_false c2, whenO_f]; rfl
      · rfl
    rw [h2, Option.bind_some]
    by_cases hb : e.any ltBad = true
    · rw [if_pos hb, Sum.elim_inr]
      obtain ⟨n, hn, hbn⟩ := List.any_eq_true.mp hb
      rw [ltBad_iff] at hbn
      unfold treeOk
      rw [sizesFrom_bad ⟨n, hn, by rw [ltP_eq]; split <;> (try split) <;> (try split) <;> (try split) <;> omega⟩]
      simp
    · rw [if_neg hb, Sum.elim_inl]
      have hg : ∀ n ∈ e, ¬ ltBad n = true := fun n hn k => hb (List.any_eq_true.mpr ⟨n, hn, k⟩)
      refine sizes_end ltP (fun n => spec_l8Parts n.kind) e h.1 h.2 (fun n hn => ?_) (fun n hn => ?_) (fun n hn => ?_)
      · have := hg n hn
        rw [ltBad_iff] at this
        rw [ltP_eq, l8Parts_eq]
        split <;> (try split) <;> (try split) <;> (try split) <;> omega
      · have := hg n hn
        rw [ltBad_iff] at this
        rw [l8Parts_eq]
        split <;> (try split) <;> (try split) <;> omega
      · rw [ltP_eq] at hn
        split at hn <;> (try split at hn) <;> (try split at hn) <;> (try split at hn) <;> omega
  · rw [if_pos (by simp; omega)]; unfold treeOk; simp; omega
theorem implLtlOk_eq (e : List TNode) : impl_LtlOk e = some (treeOk ltP e) := by
  unfold impl_LtlOk
  rw [isTree_eq]; rfl
theorem ltKinds {i : Nat} {n : TNode} (hn : NodeAt ltP i n) :
    (((n.kind = 1 ∨ n.kind = 2) ∧ n.a = 0 ∨ n.kind = 3 ∧ 0 ≤ n.a ∧ n.a ≤ 2) ∧ n.b = 0) ∨ ((n.kind = 4 ∨ n.kind = 7 ∨ n.kind = 10 ∨ n.kind = 11) ∧ 1 ≤ i ∧ n.a = (i : Int) - 1 ∧ n.b = 0) ∨ ((n.kind = 5 ∨ n.kind = 6 ∨ n.kind = 8 ∨ n.kind = 9) ∧ 1 ≤ i ∧ n.b = (i : Int) - 1 ∧ 0 ≤ n.a ∧ n.a < (i : Int) - 1) := by
  have hk := ltP_eq n
  unfold NodeAt at hn
  by_cases k1 : n.kind = 1 ∨ n.kind = 2
  · rw [if_pos k1] at hk
    by_cases c : n.b = 0 ∧ n.a = 0
    · exact .inl (by omega)
    · rw [if_neg c] at hk; omega
  rw [if_neg k1] at hk
  by_cases k3 : n.kind = 3
  · rw [if_pos k3] at hk
    by_cases c : n.b = 0 ∧ 0 ≤ n.a ∧ n.a ≤ 2
    · exact .inl (by omega)
    · rw [if_neg c] at hk; omega
  rw [if_neg k3] at hk
  by_cases k4 : n.kind = 4 ∨ n.kind = 7 ∨ n.kind = 10 ∨ n.kind = 11
  · rw [if_pos k4] at hk
    exact .inr (.inl (by omega))
  rw [if_neg k4] at hk
  by_cases k5 : n.kind = 5 ∨ n.kind = 6 ∨ n.kind = 8 ∨ n.kind = 9
  · rw [if_pos k5] at hk
    exact .inr (.inr (by omega))
  · rw [if_neg k5] at hk; omega
end Go.Proofs.Ytjjlkncefgfljaa
end

/- Powers of two. -/
section
namespace Go.Proofs.Ytjjlkncefgfljaa
open Go Go.RowKit E
set_option linter.unusedVariables false

theorem pow31 {n : Nat} (h : n ≤ 31) : 2 ^ n ≤ 2147483648 ∧ 1 ≤ 2 ^ n := ⟨by
  have : 2 ^ n ≤ 2 ^ 31 := Nat.pow_le_pow_right (by omega) h
  exact this, Nat.two_pow_pos n⟩
theorem lt31 {n s : Nat} (hn : n ≤ 31) (h : s < 2 ^ n) : s < 2 ^ 31 := Nat.lt_of_lt_of_le h (Nat.pow_le_pow_right (by omega) hn)
end Go.Proofs.Ytjjlkncefgfljaa
end

/- Members of sets, by the program. -/
section
namespace Go.Proofs.Ytjjlkncefgfljaa
open Go Go.RowKit E
set_option linter.unusedVariables false

theorem has_eq {s : Nat} (hs : s < 2 ^ 31) {x : Int} (h : 0 ≤ x ∧ x ≤ 30) : impl_has (s : Int) x = s.testBit x.toNat := by
  unfold impl_has
  have h31 : (2 : Nat) ^ 31 = 2147483648 := rfl
  obtain ⟨y, rfl⟩ : ∃ y : Nat, x = y := ⟨x.toNat, by omega⟩
  rw [u64_nat (by omega), bit_i (by omega) (by omega), Int.toNat_natCast]
end Go.Proofs.Ytjjlkncefgfljaa
end

/- The rows of a formula's table: the program and the reference write the same. -/
section
namespace Go.Proofs.Ytjjlkncefgfljaa
open Go Go.RowKit E
set_option linter.unusedVariables false

/-- Places are written from the last one down. -/
def passN (f : Nat → Bool → Bool) (nx : Nat → Nat) : Nat → List Bool → List Bool
  | 0, r => r
  | k + 1, r => passN f nx k (r.set k (f k (r.getD (nx k) default)))
theorem passN_len (f : Nat → Bool → Bool) (nx : Nat → Nat) : ∀ (k : Nat) (r : List Bool), (passN f nx k r).length = r.length
  | 0, r => rfl
  | k + 1, r => by rw [passN, passN_len f nx k]; simp
theorem pass_loop {body : List Bool × Int → Option ((List Bool × Int) ⊕ List Bool)} {f : Nat → Bool → Bool} {nx : Nat → Nat} {n : Nat} (hn : n ≤ 1000) (go : ∀ (k : Nat) (r : List Bool), k < n → r.length = n → body (r, (k : Int)) = some (.inl (r.set k (f k (r.getD (nx k) default)), W ((k : Int) - 1))))
    (fin : ∀ r : List Bool, r.length = n → body (r, -1) = some (.inr r)) : ∀ (k : Nat) (r : List Bool), k ≤ n → r.length = n → loop body (r, W ((k : Int) - 1)) = some (passN f nx k r)
  | 0, r, hk, hr => by
    rw [show W (((0 : Nat) : Int) - 1) = -1 by decide]
    exact loop_end (fin r hr)
  | k + 1, r, hk, hr => by
    have e : W (((k + 1 : Nat) : Int) - 1) = (k : Int) := by rw [W, W_eq (by omega) (by omega)]; omega
    rw [e, loop_go (go k r (by omega) hr), passN]
    exact pass_loop hn go fin k _ (by omega) (by simpa using hr)
/-- A node's row is written twice. -/
def colAt (rows : List (List Bool)) (p : Nat) : List Bool := rows.map fun r => r.getD p default
def cellN (n : TNode) (rows : List (List Bool)) (w : TWord) (p : Nat) (nx : Bool) : Bool :=
  soV n (colAt rows p) (letN w p) (if n.kind = 7 then (rows.getD n.a.toNat default).getD (nxN w p) default else nx)
def row0 (n : TNode) (w : TWord) : List Bool := List.replicate (plN w) (decide (n.kind = 9) || decide (n.kind = 11))
def rowN (n : TNode) (rows : List (List Bool)) (w : TWord) : List Bool := passN (cellN n rows w) (nxN w) (plN w) (passN (cellN n rows w) (nxN w) (plN w) (row0 n w))
theorem rowN_len (n : TNode) (rows : List (List Bool)) (w : TWord) : (rowN n rows w).length = plN w := by
  unfold rowN row0; rw [passN_len, passN_len]; simp
/-- Rows of so many places each. -/
def RowsOk (rows : List (List Bool)) (n : Nat) : Prop := ∀ i, i < rows.length → (rows.getD i default).length = n
theorem colAt_get {rows : List (List Bool)} {p i : Nat} (hi : i < rows.length) : (colAt rows p).getD i default = (rows.getD i default).getD p default := by
  unfold colAt
  simp [List.getD_eq_getElem?_getD, hi]
theorem ixRow {rows : List (List Bool)} {n : Nat} (h : RowsOk rows n) {i : Int} (h0 : 0 ≤ i) (h1 : i < rows.length) {p : Nat} (hp : p < n) : ix rows i = some (rows.getD i.toNat default) ∧ ix (rows.getD i.toNat default) (p : Int) = some ((rows.getD i.toNat default).getD p default) :=
  ⟨ix_ok h0 h1, ix_nat (by rw [h i.toNat (by omega)]; exact hp)⟩
theorem l9One_eq {n : TNode} {rows : List (List Bool)} {w : TWord} (hw : WOk w) (hn : NodeAt ltP rows.length n) (hr : RowsOk rows (plN w)) {p : Nat} (hp : p < plN w) {out : List Bool} (ho : out.length = plN w) :
    spec_l9One n rows w (p : Int) out = some (cellN n rows w p (out.getD (nxN w p) default)) := by
  have hk := ltKinds hn
  have hx := nxN_lt hw hp
  have hl := letN_le hw hp
  unfold spec_l9One cellN soV
  have ra : 0 ≤ n.a → n.a < rows.length → (∀ p, p < plN w → ix rows n.a = some (rows.getD n.a.toNat default) ∧ ix (rows.getD n.a.toNat default) (p : Int) = some ((rows.getD n.a.toNat default).getD p default)) := fun h0 h1 p hp => ixRow hr h0 h1 hp
  have rb : 0 ≤ n.b → n.b < rows.length → (∀ p, p < plN w → ix rows n.b = some (rows.getD n.b.toNat default) ∧ ix (rows.getD n.b.toNat default) (p : Int) = some ((rows.getD n.b.toNat default).getD p default)) := fun h0 h1 p hp => ixRow hr h0 h1 hp
  have ca : 0 ≤ n.a → n.a < rows.length → (colAt rows p).getD n.a.toNat default = (rows.getD n.a.toNat default).getD p default := fun h0 h1 => colAt_get (by omega)
  have cb : 0 ≤ n.b → n.b < rows.length → (colAt rows p).getD n.b.toNat default = (rows.getD n.b.toNat default).getD p default := fun h0 h1 => colAt_get (by omega)
  have hout : ix out (nxN w p : Int) = some (out.getD (nxN w p) default) := ix_nat (by rw [ho]; exact hx)
  rw [l6After_eq hw hp, hout]
  by_cases k1 : n.kind = 1
  · rw [if_pos k1, if_pos k1]
  rw [if_neg k1, if_neg k1]
  by_cases k3 : n.kind = 3
  · rw [if_pos k3, if_pos k3, l3At_eq hw hp, Option.bind_some, decide_eq_true (by omega), chk_t, Option.bind_some]
    have := bit_i (a := letN w p) (n := n.a.toNat) (by omega) (by omega)
    rw [show ((n.a.toNat : Nat) : Int) = n.a by omega] at this
    rw [this]
  rw [if_neg k3, if_neg k3]
  by_cases k2 : n.kind = 2
  · simp [k2]
  have a0 : 0 ≤ n.a ∧ n.a < rows.length := by omega
  rw [(ra a0.1 a0.2 p hp).1, ca a0.1 a0.2]
  simp only [Option.bind_some]
  rw [(ra a0.1 a0.2 p hp).2, (ra a0.1 a0.2 (nxN w p) hx).2]
  simp only [Option.bind_some]
  by_cases k4 : n.kind = 4
  · rw [if_pos k4, if_pos k4]
  rw [if_neg k4, if_neg k4]
  by_cases k7 : n.kind = 7
  · simp [k7]
  by_cases k10 : n.kind = 10
  · simp only [k10, if_neg (by decide : ¬ (10 : Int) = 5), if_neg (by decide : ¬ (10 : Int) = 6), if_neg (by decide : ¬ (10 : Int) = 7), if_neg (by decide : ¬ (10 : Int) = 8), if_neg (by decide : ¬ (10 : Int) = 9), if_true]
    cases (rows.getD n.a.toNat default).getD p default <;> simp [whenO]
  by_cases k11 : n.kind = 11
  · simp only [k11, if_neg (by decide : ¬ (11 : Int) = 5), if_neg (by decide : ¬ (11 : Int) = 6), if_neg (by decide : ¬ (11 : Int) = 7), if_neg (by decide : ¬ (11 : Int) = 8), if_neg (by decide : ¬ (11 : Int) = 9), if_neg (by decide : ¬ (11 : Int) = 10), if_true]
    cases (rows.getD n.a.toNat default).getD p default <;> simp [whenO]
  have b0 : 0 ≤ n.b ∧ n.b < rows.length := by omega
  have hB := (rb b0.1 b0.2 p hp).2
  rw [(rb b0.1 b0.2 p hp).1, cb b0.1 b0.2]
  have k5 : n.kind = 5 ∨ n.kind = 6 ∨ n.kind = 8 ∨ n.kind = 9 := by omega
  have hA := (ra a0.1 a0.2 p hp).2
  generalize rows.getD n.b.toNat default = RB at hB ⊢
  generalize rows.getD n.a.toNat default = RA at hA ⊢
  generalize RA.getD p default = A at hA ⊢
  generalize RB.getD p default = B at hB ⊢
  simp only [Option.bind_some]
  rcases k5 with k5 | k5 | k5 | k5
  · simp only [k5, if_true]
    cases A
    · rfl
    · rw [whenO_t, Option.bind_some, whenO_t, hB]; rfl
  · simp only [k5, if_neg (by decide : ¬ (6 : Int) = 5), if_true]
    cases A
    · rw [Bool.not_false, whenO_t, Option.bind_some, whenO_t, hB]; rfl
    · rfl
  · simp only [k5, if_neg (by decide : ¬ (8 : Int) = 5), if_neg (by decide : ¬ (8 : Int) = 6), if_neg (by decide : ¬ (8 : Int) = 7), if_true, hB, Option.bind_some]
    cases B
    · simp only [Bool.not_false, whenO_t, whenO_f, Option.bind_some, hA, Bool.false_or, Bool.true_and, Bool.false_and] <;> (try cases A <;> rfl)
    · simp only [Bool.not_true, whenO_t, whenO_f, Option.bind_some, hA, Bool.true_or, Bool.true_and, Bool.false_and] <;> (try cases A <;> rfl)
  · simp only [k5, if_neg (by decide : ¬ (9 : Int) = 5), if_neg (by decide : ¬ (9 : Int) = 6), if_neg (by decide : ¬ (9 : Int) = 7), if_neg (by decide : ¬ (9 : Int) = 8), if_true, hB, Option.bind_some]
    cases B
    · simp only [Bool.not_false, whenO_t, whenO_f, Option.bind_some, hA, Bool.false_or, Bool.true_and, Bool.false_and] <;> (try cases A <;> rfl)
    · simp only [Bool.not_true, whenO_t, whenO_f, Option.bind_some, hA, Bool.true_or, Bool.true_and, Bool.false_and] <;> (try cases A <;> rfl)
/-- The two parts of a node, where they have rows. -/
theorem set_getB {xs : List Bool} {i j : Nat} {b : Bool} (hi : i < xs.length) : (xs.set i b).getD j default = if i = j then b else xs.getD j default := by
  simp only [List.getD_eq_getElem?_getD]
  by_cases e : i = j
  · subst e; simp [hi]
  · simp [e]
theorem columnOf_eq {n : TNode} {rows : List (List Bool)} {N : Nat} (ha : 0 ≤ n.a) (hb : 0 ≤ n.b) (hr : RowsOk rows N) (hl : rows.length ≤ 1000) {p : Nat} (hp : p < N) :
    ∃ c, impl_columnOf n rows (p : Int) = some c ∧ c.length = rows.length ∧ (n.a < rows.length → c.getD n.a.toNat default = (colAt rows p).getD n.a.toNat default) ∧ (n.b < rows.length → c.getD n.b.toNat default = (colAt rows p).getD n.b.toNat default) := by
  unfold impl_columnOf
  rw [mk_ok (by omega) (by omega), Option.bind_some, Int.toNat_natCast]
  have step : ∀ (y : List Bool) (x : Int), 0 ≤ x → y.length = rows.length → ∃ y', y'.length = rows.length ∧ (∀ i, y'.getD i default = if i = x.toNat ∧ x < rows.length then (colAt rows p).getD i default else y.getD i default) ∧
      ∀ (k : Int), (if x < (rows.length : Int) then (ix rows x).bind fun a29 => (ix a29 (p : Int)).bind fun a32 => (ck x y.length).bind fun m34 => some (.inl (y.set m34 a32, k)) else some (.inl (y, k))) = (some (.inl (y', k)) : Option ((List Bool × Int) ⊕ List Bool)) := by
    intro y x h0 hy
    by_cases h : x < (rows.length : Int)
    · obtain ⟨g1, g2⟩ := ixRow hr h0 h hp
      refine ⟨y.set x.toNat ((rows.getD x.toNat default).getD p default), by simpa using hy, fun i => ?_, fun k => ?_⟩
      · rw [set_getB (by omega)]
        by_cases e : x.toNat = i
        · rw [if_pos e, if_pos ⟨e.symm, h⟩, ← e, colAt_get (by omega)]
        · rw [if_neg e, if_neg (fun g => e g.1.symm)]
      · rw [if_pos h, g1, Option.bind_some, g2, Option.bind_some, ck_ok h0 (by omega), Option.bind_some]
    · exact ⟨y, hy, fun i => by rw [if_neg (fun g => h g.2)], fun k => by rw [if_neg h]⟩
  obtain ⟨y1, l1, g1, s1⟩ := step (List.replicate rows.length false) n.a ha (by simp)
  obtain ⟨y2, l2, g2, s2⟩ := step y1 n.b hb l1
  refine ⟨y2, ?_, l2, fun h => ?_, fun h => ?_⟩
  · have e0 : impl_columnOf.b0 n rows (p : Int) (List.replicate rows.length false) 0 = some (.inl (y1, 1)) := by
      unfold impl_columnOf.b0
      rw [if_pos (by decide), show ix [n.a, n.b] 0 = some n.a from rfl, Option.bind_some, show W ((0 : Int) + 1) = 1 by decide]
      exact s1 1
    have e1 : impl_columnOf.b0 n rows (p : Int) y1 1 = some (.inl (y2, 2)) := by
      unfold impl_columnOf.b0
      rw [if_pos (by decide), show ix [n.a, n.b] 1 = some n.b from rfl, Option.bind_some, show W ((1 : Int) + 1) = 2 by decide]
      exact s2 2
    have e2 : impl_columnOf.b0 n rows (p : Int) y2 2 = some (.inr y2) := by
      unfold impl_columnOf.b0; rw [if_neg (by decide)]
    rw [loop_go (s' := (y1, 1)) e0, loop_go (s' := (y2, 2)) e1, loop_end (r := y2) e2]; rfl
  · rw [g2]
    split
    · rfl
    · rw [g1, if_pos ⟨rfl, h⟩]
  · rw [g2, if_pos ⟨rfl, h⟩]
theorem soBy_eq {n : TNode} {rows : List (List Bool)} {w : TWord} (hw : WOk w) (hn : NodeAt ltP rows.length n) {p : Nat} (hp : p < plN w) {c : List Bool} (hc : c.length = rows.length) (ca : n.a < rows.length → c.getD n.a.toNat default = (colAt rows p).getD n.a.toNat default) (cb : n.b < rows.length → c.getD n.b.toNat default = (colAt rows p).getD n.b.toNat default) (nx : Bool) :
    impl_soBy n c (letN w p : Int) nx = some (soV n (colAt rows p) (letN w p) nx) := by
  have hk := ltKinds hn
  have hl := letN_le hw hp
  have xa : 0 ≤ n.a → n.a < rows.length → ix c n.a = some ((colAt rows p).getD n.a.toNat default) := fun h0 h1 => by rw [ix_ok h0 (by omega), ca h1]
  have xb : 0 ≤ n.b → n.b < rows.length → ix c n.b = some ((colAt rows p).getD n.b.toNat default) := fun h0 h1 => by rw [ix_ok h0 (by omega), cb h1]
  unfold impl_soBy impl_plain soV
  generalize (colAt rows p).getD n.a.toNat default = A at xa
  generalize (colAt rows p).getD n.b.toNat default = B at xb
  by_cases k7 : n.kind = 7
  · simp [k7]
  by_cases k1 : n.kind = 1
  · simp [k1]
  by_cases k3 : n.kind = 3
  · rw [if_neg k7, if_neg (by omega), if_neg (by omega), if_neg (by omega), if_neg (by omega), if_neg k1, if_pos k3, if_neg k1, if_pos k3, Option.bind_some]
    have := has_eq (s := letN w p) (by have : (2 : Nat) ^ 31 = 2147483648 := rfl
                                       omega) (x := n.a) (by omega)
    rw [this]
  by_cases k2 : n.kind = 2
  · simp [k2]
  have hA := xa (by omega) (by omega)
  by_cases k4 : n.kind = 4
  · simp only [k4, if_neg (by decide : ¬ (4 : Int) = 7), if_neg (by decide : ¬ (4 : Int) = 8), if_neg (by decide : ¬ (4 : Int) = 9), if_neg (by decide : ¬ (4 : Int) = 10), if_neg (by decide : ¬ (4 : Int) = 11), if_neg (by decide : ¬ (4 : Int) = 1), if_neg (by decide : ¬ (4 : Int) = 3), if_true, hA, Option.bind_some]
  by_cases k10 : n.kind = 10
  · simp only [k10, if_neg (by decide : ¬ (10 : Int) = 7), if_neg (by decide : ¬ (10 : Int) = 8), if_neg (by decide : ¬ (10 : Int) = 9), if_neg (by decide : ¬ (10 : Int) = 4), if_neg (by decide : ¬ (10 : Int) = 5), if_neg (by decide : ¬ (10 : Int) = 6), if_neg (by decide : ¬ (10 : Int) = 1), if_neg (by decide : ¬ (10 : Int) = 3), if_true, hA, Option.bind_some]
  by_cases k11 : n.kind = 11
  · simp only [k11, if_neg (by decide : ¬ (11 : Int) = 7), if_neg (by decide : ¬ (11 : Int) = 8), if_neg (by decide : ¬ (11 : Int) = 9), if_neg (by decide : ¬ (11 : Int) = 10), if_neg (by decide : ¬ (11 : Int) = 4), if_neg (by decide : ¬ (11 : Int) = 5), if_neg (by decide : ¬ (11 : Int) = 6), if_neg (by decide : ¬ (11 : Int) = 1), if_neg (by decide : ¬ (11 : Int) = 3), if_true, hA, Option.bind_some]
  have hB := xb (by omega) (by omega)
  have k5 : n.kind = 5 ∨ n.kind = 6 ∨ n.kind = 8 ∨ n.kind = 9 := by omega
  rcases k5 with k5 | k5 | k5 | k5
  · rw [if_neg (by omega), if_neg (by omega), if_neg (by omega), if_neg (by omega), if_neg (by omega), if_neg k1, if_neg k3, if_neg k4, if_pos k5, if_neg k1, if_neg k3, if_neg k4, if_pos k5, hA, Option.bind_some]
    cases A
    · rfl
    · rw [whenO_t, hB]; rfl
  · rw [if_neg (by omega), if_neg (by omega), if_neg (by omega), if_neg (by omega), if_neg (by omega), if_neg k1, if_neg k3, if_neg k4, if_neg (by omega), if_pos k5, if_neg k1, if_neg k3, if_neg k4, if_neg (by omega), if_pos k5, hA, Option.bind_some]
    cases A
    · rw [Bool.not_false, whenO_t, hB]; rfl
    · rfl
  · rw [if_neg k7, if_pos k5, if_neg k1, if_neg k3, if_neg k4, if_neg (by omega), if_neg (by omega), if_neg k7, if_pos k5, hB, Option.bind_some]
    cases B
    · rw [Bool.not_false, whenO_t, hA]; rfl
    · rfl
  · rw [if_neg k7, if_neg (by omega), if_pos k5, if_neg k1, if_neg k3, if_neg k4, if_neg (by omega), if_neg (by omega), if_neg k7, if_neg (by omega), if_pos k5, hB, Option.bind_some]
    cases B
    · rfl
    · rw [whenO_t, hA]; rfl
/-- The reference's row. -/
theorem l9Row_eq {n : TNode} {rows : List (List Bool)} {w : TWord} (hw : WOk w) (hn : NodeAt ltP rows.length n) (hr : RowsOk rows (plN w)) : spec_l9Row n rows w = some (rowN n rows w) := by
  have h1 := hw.stem; have h2 := hw.loop; have h3 := hw.one
  have hp : plN w ≤ 80 := by unfold plN; omega
  have W1 : ∀ k : Nat, k < 1000 → W ((k : Int) + 1) = ((k + 1 : Nat) : Int) := fun k hk => by rw [W, W_eq (by omega) (by omega)]; omega
  unfold spec_l9Row
  rw [l6Places_eq hw, mk_ok (by omega) (by omega), Option.bind_some, Int.toNat_natCast]
  have e1 := loop_up (body := fun s : List Bool × Int => spec_l9Row.b2 w n s.1 s.2) (plN w) (fun k => (List.replicate k (decide (n.kind = 9) || decide (n.kind = 11)) ++ List.replicate (plN w - k) false, (k : Int))) (row0 n w) (fun k hk => ?_) ?_ 0 (Nat.zero_le _)
  · simp only [List.replicate_zero, List.nil_append, Nat.sub_zero, Int.natCast_zero] at e1
    rw [e1, Option.bind_some]
    unfold spec_l9Row.k0
    have hpass : ∀ y : List Bool, y.length = plN w → loop (fun s : List Bool × Int => spec_l9Row.b1 n rows w s.1 s.2) (y, W ((plN w : Int) - 1)) = some (passN (cellN n rows w) (nxN w) (plN w) y) := fun y hy =>
      pass_loop (n := plN w) (by omega) (fun k r hk hr' => by
        unfold spec_l9Row.b1
        rw [if_pos (by show (k : Int) ≥ 0; omega)]
        dsimp only
        rw [l9One_eq hw hn hr hk hr', Option.bind_some, ck_nat (by omega), Option.bind_some]) (fun r _ => by unfold spec_l9Row.b1; rw [if_neg (by show ¬ ((-1 : Int) ≥ 0); decide)]) (plN w) y (Nat.le_refl _) hy
    have r0 : (row0 n w).length = plN w := by unfold row0; simp
    have r1 : (passN (cellN n rows w) (nxN w) (plN w) (row0 n w)).length = plN w := by rw [passN_len]; exact r0
    rw [loop_go (s' := (passN (cellN n rows w) (nxN w) (plN w) (row0 n w), 1)), loop_go (s' := (rowN n rows w, 2)), loop_end (r := rowN n rows w)]
    · rfl
    · dsimp only; unfold spec_l9Row.b0; rw [if_neg (by decide)]
    · dsimp only; unfold spec_l9Row.b0; rw [if_pos (by decide), l6Places_eq hw, hpass _ r1, Option.bind_some]; rfl
    · dsimp only; unfold spec_l9Row.b0; rw [if_pos (by decide), l6Places_eq hw, hpass _ r0, Option.bind_some]; rfl
  · dsimp only; unfold spec_l9Row.b2
    rw [l6Places_eq hw, if_pos (by omega), bnd_eq, ck_nat (by simp; omega), Option.bind_some, W1 k (by omega), List.set_append_right _ _ (by simp), show plN w - k = (plN w - (k + 1)) + 1 by omega, List.replicate_succ, List.length_replicate, Nat.sub_self, List.set_cons_zero, List.replicate_succ']
    simp
  · dsimp only; unfold spec_l9Row.b2
    rw [l6Places_eq hw, if_neg (by omega)]; simp [row0]
/-- The program's row. -/
theorem rowOf_eq {n : TNode} {rows : List (List Bool)} {w : TWord} (hw : WOk w) (hn : NodeAt ltP rows.length n) (hr : RowsOk rows (plN w)) (hl : rows.length ≤ 1000) : impl_rowOf n rows w = some (rowN n rows w) := by
  have h1 := hw.stem; have h2 := hw.loop; have h3 := hw.one
  have hp : plN w ≤ 80 := by unfold plN; omega
  have hk := ltKinds hn
  have W1 : ∀ k : Nat, k < 1000 → W ((k : Int) + 1) = ((k + 1 : Nat) : Int) := fun k hk => by rw [W, W_eq (by omega) (by omega)]; omega
  unfold impl_rowOf
  rw [places_eq hw, mk_ok (by omega) (by omega), Option.bind_some, Int.toNat_natCast]
  have e1 := loop_up (body := fun s : List Bool × Int => impl_rowOf.b2 (List.replicate (plN w) false) n s.1 s.2) (plN w) (fun k => (List.replicate k (decide (n.kind = 9) || decide (n.kind = 11)) ++ List.replicate (plN w - k) false, (k : Int))) (row0 n w) (fun k hk => ?_) ?_ 0 (Nat.zero_le _)
  · simp only [List.replicate_zero, List.nil_append, Nat.sub_zero, Int.natCast_zero] at e1
    rw [e1, Option.bind_some]
    unfold impl_rowOf.k0
    have hpass : ∀ y : List Bool, y.length = plN w → loop (fun s : List Bool × Int => impl_rowOf.b1 w n rows s.1 s.2) (y, W ((y.length : Int) - 1)) = some (passN (cellN n rows w) (nxN w) (plN w) y) := fun y hy => by
      rw [hy]
      refine pass_loop (n := plN w) (by omega) (fun k r hk' hr' => ?_) (fun r _ => by unfold impl_rowOf.b1; rw [if_neg (by show ¬ ((-1 : Int) ≥ 0); decide)]) (plN w) y (Nat.le_refl _) hy
      unfold impl_rowOf.b1
      have hx := nxN_lt hw hk'
      obtain ⟨c, c1, c2, c3, c4⟩ := columnOf_eq (n := n) (rows := rows) (by omega) (by omega) hr hl hk'
      rw [if_pos (by show (k : Int) ≥ 0; omega)]
      dsimp only
      rw [next_eq hw hk', ix_nat (by omega), Option.bind_some]
      have k3 : ∀ nx, impl_rowOf.k3 n rows (k : Int) w r nx = some (.inl (r.set k (soV n (colAt rows k) (letN w k) nx), W ((k : Int) - 1))) := fun nx => by
        unfold impl_rowOf.k3
        rw [c1, Option.bind_some, letter_eq hw hk', Option.bind_some, soBy_eq hw hn hk' c2 c3 c4, Option.bind_some, ck_nat (by omega), Option.bind_some]
      unfold cellN
      by_cases k7 : n.kind = 7
      · obtain ⟨g1, g2⟩ := ixRow hr (i := n.a) (by omega) (by omega) hx
        rw [if_pos k7, if_pos k7, g1, Option.bind_some, g2, Option.bind_some, k3]
      · rw [if_neg k7, if_neg k7, k3]
    have r0 : (row0 n w).length = plN w := by unfold row0; simp
    have r1 : (passN (cellN n rows w) (nxN w) (plN w) (row0 n w)).length = plN w := by rw [passN_len]; exact r0
    rw [loop_go (s' := (passN (cellN n rows w) (nxN w) (plN w) (row0 n w), 1)), loop_go (s' := (rowN n rows w, 2)), loop_end (r := rowN n rows w)]
    · rfl
    · dsimp only; unfold impl_rowOf.b0; rw [if_neg (by decide)]
    · dsimp only; unfold impl_rowOf.b0; rw [if_pos (by decide), hpass _ r1, Option.bind_some]; rfl
    · dsimp only; unfold impl_rowOf.b0; rw [if_pos (by decide), hpass _ r0, Option.bind_some]; rfl
  · dsimp only; unfold impl_rowOf.b2
    rw [List.length_replicate, if_pos (by omega), bnd_eq, ck_nat (by simp; omega), Option.bind_some, W1 k (by omega), List.set_append_right _ _ (by simp), show plN w - k = (plN w - (k + 1)) + 1 by omega, List.replicate_succ, List.length_replicate, Nat.sub_self, List.set_cons_zero, List.replicate_succ']
    simp
  · dsimp only; unfold impl_rowOf.b2
    rw [List.length_replicate, if_neg (by omega)]; simp [row0]
/-- The table. -/
def tabN (w : TWord) (e : List TNode) : List (List Bool) := accum (fun n rows => rowN n rows w) [] e
theorem tabN_len (w : TWord) (e : List TNode) : (tabN w e).length = e.length := by unfold tabN; rw [accum_len]; simp
theorem tabN_rows (w : TWord) (e : List TNode) (i : Nat) (hi : i ≤ e.length) : RowsOk (accum (fun n rows => rowN n rows w) [] (e.take i)) (plN w) := by
  intro j hj
  have hl : (accum (fun n rows => rowN n rows w) [] (e.take i)).length = i := by rw [accum_len]; simp; omega
  rw [accum_take _ default e hi (by omega), accum_get _ default e (by omega)]
  exact rowN_len _ _ _
theorem tab_loop {body : List (List Bool) × Int → Option ((List (List Bool) × Int) ⊕ List (List Bool))} {e : List TNode} (he : Nodes ltP e) {w : TWord}
    (go : ∀ k, k < e.length → (accum (fun n rows => rowN n rows w) [] (e.take k)).length = k → RowsOk (accum (fun n rows => rowN n rows w) [] (e.take k)) (plN w) → body (accum (fun n rows => rowN n rows w) [] (e.take k), (k : Int)) = some (.inl (accum (fun n rows => rowN n rows w) [] (e.take k) ++ [rowN (e.getD k default) (accum (fun n rows => rowN n rows w) [] (e.take k)) w], ((k + 1 : Nat) : Int))))
    (fin : body (tabN w e, (e.length : Int)) = some (.inr (tabN w e))) : loop body ([], 0) = some (tabN w e) := by
  have h1 := loop_up (body := body) e.length (fun k => (accum (fun n rows => rowN n rows w) [] (e.take k), (k : Int))) (tabN w e) (fun k hk => ?_) (by rw [List.take_length]; exact fin) 0 (Nat.zero_le _)
  · simpa [accum] using h1
  · have hl : (accum (fun n rows => rowN n rows w) [] (e.take k)).length = k := by rw [accum_len]; simp; omega
    rw [go k hk hl (tabN_rows w e k (by omega)), accum_snoc _ e hk]
theorem tableOf_eq {e : List TNode} (he : Nodes ltP e) {w : TWord} (hw : WOk w) : impl_tableOf e w = some (tabN w e) := by
  have h2 := he.2.1
  unfold impl_tableOf
  rw [tab_loop he (w := w) (fun k hk hl hr => ?_) ?_, Option.bind_some]
  · rfl
  · unfold impl_tableOf.b0; rw [if_neg (by show ¬ ((e.length : Int) < e.length); omega)]
  · unfold impl_tableOf.b0
    have hn := he.2.2 k hk
    rw [if_pos (by show (k : Int) < e.length; omega), ix_nat hk, Option.bind_some, rowOf_eq hw (by rw [hl]; exact hn) hr (by omega), Option.bind_some, app_small (by rw [hl]; simp; omega) (by decide), Option.bind_some, W, W_nat (by omega)]
noncomputable def ltTable (e : List TNode) (w : TWord) : List (List Bool) := if treeOk ltP e = true ∧ wordOk w 8 = true then tabN w e else []
theorem specTable_eq (e : List TNode) (w : TWord) : spec_LtlTable e w = some (ltTable e w) := by
  unfold spec_LtlTable ltTable
  rw [specLtlOk_eq, Option.bind_some, bnd_eq]
  by_cases h : treeOk ltP e = true
  · rw [h, Bool.not_true, Bool.not_false, whenO_t, l3Right_eq, Option.bind_some, Bool.false_or]
    by_cases g : wordOk w 8 = true
    · rw [if_neg (by simp [g]), if_pos ⟨rfl, g⟩]
      have he := treeOk_nodes h
      have hw := (wordOk_t g).1
      have h2 := he.2.1
      rw [tab_loop he (w := w) (fun k hk hl hr => ?_) ?_, Option.bind_some]
      · rfl
      · unfold spec_LtlTable.b0; rw [if_neg (by show ¬ ((e.length : Int) < e.length); omega)]
      · unfold spec_LtlTable.b0
        have hn := he.2.2 k hk
        rw [if_pos (by show (k : Int) < e.length; omega), ix_nat hk, Option.bind_some, l9Row_eq hw (by rw [hl]; exact hn) hr, Option.bind_some, app_small (by rw [hl]; simp; omega) (by decide), Option.bind_some, W, W_nat (by omega)]
    · rw [if_pos (by simpa using g), if_neg (fun q => g q.2)]
  · rw [Bool.not_eq_true] at h
    rw [h, Bool.not_false, Bool.not_true, whenO_f, Option.bind_some, Bool.true_or, if_pos rfl, if_neg (by simp)]
end Go.Proofs.Ytjjlkncefgfljaa
end

/- The rows of a formula's table go on by steps. -/
section
namespace Go.Proofs.Ytjjlkncefgfljaa
open Go Go.RowKit E
set_option linter.unusedVariables false

def Mono (f : Nat → Bool → Bool) : Prop := ∀ p, f p false = true → f p true = true
theorem mono_idem {g : Bool → Bool} (h : g false = true → g true = true) (c : Bool) : g (g c) = g c := by
  cases h0 : g false <;> cases h1 : g true <;> cases c <;> simp_all
/-- From the last place down to k. -/
def downN (f : Nat → Bool → Bool) : Nat → Nat → Bool → Bool
  | 0, _, c => c
  | d + 1, k, c => f k (downN f d (k + 1) c)
theorem downN_mono {f : Nat → Bool → Bool} (h : Mono f) : ∀ d k, downN f d k false = true → downN f d k true = true
  | 0, k, g => rfl
  | d + 1, k, g => by
    unfold downN at g ⊢
    cases h0 : downN f d (k + 1) false with
    | true => rw [downN_mono h d (k + 1) h0]; rw [h0] at g; exact g
    | false =>
      rw [h0] at g
      cases downN f d (k + 1) true with
      | true => exact h k g
      | false => exact g
theorem getD_setB {xs : List Bool} {i j : Nat} {b : Bool} (hi : i < xs.length) : (xs.set i b).getD j default = if i = j then b else xs.getD j default := set_getB hi
/-- A pass: each place by the next one; the last one by what stood at s. -/
theorem pass_val {f : Nat → Bool → Bool} {nx : Nat → Nat} {n s : Nat} (hnx : ∀ k, k < n → nx k = if k + 1 = n then s else k + 1) (hs : s < n) (c : Bool) :
    ∀ (k : Nat) (r : List Bool), k ≤ n → r.length = n → (k = n → r.getD s default = c) → (∀ j, k ≤ j → j < n → r.getD j default = downN f (n - j) j c) → ∀ j, j < n → (passN f nx k r).getD j default = downN f (n - j) j c
  | 0, r, _, hr, _, hj => fun j hjn => hj j (Nat.zero_le _) hjn
  | k + 1, r, hk, hr, hc, hj => by
    rw [passN]
    refine pass_val hnx hs c k _ (by omega) (by simpa using hr) (fun e => by omega) fun j h1 h2 => ?_
    rw [getD_setB (by omega)]
    by_cases e : k = j
    · subst e
      rw [if_pos rfl, hnx k (by omega)]
      have e1 : n - k = (n - (k + 1)) + 1 := by omega
      rw [e1]
      show _ = f k (downN f (n - (k + 1)) (k + 1) c)
      congr 1
      by_cases e2 : k + 1 = n
      · rw [if_pos e2, hc e2, show n - (k + 1) = 0 by omega]; rfl
      · rw [if_neg e2]; exact hj (k + 1) (Nat.le_refl _) (by omega)
    · rw [if_neg e]; exact hj j (by omega) h2
theorem pass_all {f : Nat → Bool → Bool} {nx : Nat → Nat} {n s : Nat} (hnx : ∀ k, k < n → nx k = if k + 1 = n then s else k + 1) (hs : s < n) (r : List Bool) (hr : r.length = n) (j : Nat) (hj : j < n) : (passN f nx n r).getD j default = downN f (n - j) j (r.getD s default) :=
  pass_val hnx hs (r.getD s default) n r (Nat.le_refl _) hr (fun _ => rfl) (fun j h1 h2 => by omega) j hj
/-- After two passes each place is as it says by the next one. -/
theorem twice_step {f : Nat → Bool → Bool} {nx : Nat → Nat} {n s : Nat} (hnx : ∀ k, k < n → nx k = if k + 1 = n then s else k + 1) (hs : s < n) (hf : Mono f) (r : List Bool) (hr : r.length = n) (p : Nat) (hp : p < n) :
    (passN f nx n (passN f nx n r)).getD p default = f p ((passN f nx n (passN f nx n r)).getD (nx p) default) := by
  have h1 : (passN f nx n r).length = n := by rw [passN_len]; exact hr
  have key := pass_all (f := f) hnx hs (passN f nx n r) h1
  have hsv := pass_all (f := f) hnx hs r hr s hs
  have e1 : n - p = (n - (p + 1)) + 1 := by omega
  rw [key p hp, hnx p hp, hsv, e1]
  show f p _ = _
  congr 1
  by_cases e2 : p + 1 = n
  · rw [if_pos e2, key s hs, hsv, show n - (p + 1) = 0 by omega]
    show downN f (n - s) s (r.getD s default) = _
    exact (mono_idem (g := downN f (n - s) s) (downN_mono hf _ _) _).symm
  · rw [if_neg e2, key (p + 1) (by omega), hsv]
theorem cell_mono (n : TNode) (rows : List (List Bool)) (w : TWord) : Mono (cellN n rows w) := by
  intro p
  by_cases k7 : n.kind = 7
  · have e : cellN n rows w p false = cellN n rows w p true := by unfold cellN; rw [if_pos k7, if_pos k7]
    rw [e]; exact fun h => h
  · unfold cellN
    rw [if_neg k7, if_neg k7]
    unfold soV
    generalize (colAt rows p).getD n.a.toNat default = A
    generalize (colAt rows p).getD n.b.toNat default = B
    (repeat' split) <;> cases A <;> cases B <;> simp
theorem nx_if {w : TWord} (k : Nat) : nxN w k = if k + 1 = plN w then w.stem.length else k + 1 := rfl
theorem row_step {w : TWord} (hw : WOk w) (n : TNode) (rows : List (List Bool)) {p : Nat} (hp : p < plN w) : (rowN n rows w).getD p default = cellN n rows w p ((rowN n rows w).getD (nxN w p) default) := by
  unfold rowN
  exact twice_step (s := w.stem.length) (fun k _ => nx_if k) (by have := hw.one; unfold plN; omega) (cell_mono n rows w) _ (by simp [row0]) p hp
/-- A row depends on the rows ahead of it alone. -/
theorem soV_congr {n : TNode} {ts us : List Bool} {l : Nat} {b : Bool} (ha : 3 < n.kind → n.kind ≤ 11 → ts.getD n.a.toNat default = us.getD n.a.toNat default) (hb : (n.kind = 5 ∨ n.kind = 6 ∨ n.kind = 8 ∨ n.kind = 9) → ts.getD n.b.toNat default = us.getD n.b.toNat default) : soV n ts l b = soV n us l b := by
  unfold soV
  by_cases k1 : n.kind = 1
  · rw [if_pos k1, if_pos k1]
  by_cases k3 : n.kind = 3
  · rw [if_neg k1, if_neg k1, if_pos k3, if_pos k3]
  by_cases k4 : n.kind = 4
  · rw [if_neg k1, if_neg k1, if_neg k3, if_neg k3, if_pos k4, if_pos k4, ha (by omega) (by omega)]
  by_cases k5 : n.kind = 5
  · rw [if_neg k1, if_neg k1, if_neg k3, if_neg k3, if_neg k4, if_neg k4, if_pos k5, if_pos k5, ha (by omega) (by omega), hb (by omega)]
  by_cases k6 : n.kind = 6
  · rw [if_neg k1, if_neg k1, if_neg k3, if_neg k3, if_neg k4, if_neg k4, if_neg k5, if_neg k5, if_pos k6, if_pos k6, ha (by omega) (by omega), hb (by omega)]
  by_cases k7 : n.kind = 7
  · rw [if_neg k1, if_neg k1, if_neg k3, if_neg k3, if_neg k4, if_neg k4, if_neg k5, if_neg k5, if_neg k6, if_neg k6, if_pos k7, if_pos k7]
  by_cases k8 : n.kind = 8
  · rw [if_neg k1, if_neg k1, if_neg k3, if_neg k3, if_neg k4, if_neg k4, if_neg k5, if_neg k5, if_neg k6, if_neg k6, if_neg k7, if_neg k7, if_pos k8, if_pos k8, ha (by omega) (by omega), hb (by omega)]
  by_cases k9 : n.kind = 9
  · rw [if_neg k1, if_neg k1, if_neg k3, if_neg k3, if_neg k4, if_neg k4, if_neg k5, if_neg k5, if_neg k6, if_neg k6, if_neg k7, if_neg k7, if_neg k8, if_neg k8, if_pos k9, if_pos k9, ha (by omega) (by omega), hb (by omega)]
  by_cases k10 : n.kind = 10
  · rw [if_neg k1, if_neg k1, if_neg k3, if_neg k3, if_neg k4, if_neg k4, if_neg k5, if_neg k5, if_neg k6, if_neg k6, if_neg k7, if_neg k7, if_neg k8, if_neg k8, if_neg k9, if_neg k9, if_pos k10, if_pos k10, ha (by omega) (by omega)]
  by_cases k11 : n.kind = 11
  · rw [if_neg k1, if_neg k1, if_neg k3, if_neg k3, if_neg k4, if_neg k4, if_neg k5, if_neg k5, if_neg k6, if_neg k6, if_neg k7, if_neg k7, if_neg k8, if_neg k8, if_neg k9, if_neg k9, if_neg k10, if_neg k10, if_pos k11, if_pos k11, ha (by omega) (by omega)]
  · rw [if_neg k1, if_neg k1, if_neg k3, if_neg k3, if_neg k4, if_neg k4, if_neg k5, if_neg k5, if_neg k6, if_neg k6, if_neg k7, if_neg k7, if_neg k8, if_neg k8, if_neg k9, if_neg k9, if_neg k10, if_neg k10, if_neg k11, if_neg k11]
/-- The parts of a node that are asked lie ahead of it. -/
theorem node_parts {i : Nat} {n : TNode} (hn : NodeAt ltP i n) : (3 < n.kind → n.kind ≤ 11 → 0 ≤ n.a ∧ n.a.toNat < i) ∧ ((n.kind = 5 ∨ n.kind = 6 ∨ n.kind = 8 ∨ n.kind = 9) → 0 ≤ n.b ∧ n.b.toNat < i) := by
  have := ltKinds hn
  constructor
  · intro h1 h2; omega
  · intro h1; omega
theorem tab_get {w : TWord} {e : List TNode} {i : Nat} (hi : i < e.length) : (tabN w e).getD i default = rowN (e.getD i default) (accum (fun n rows => rowN n rows w) [] (e.take i)) w := by
  unfold tabN; exact accum_get _ default e hi
theorem tab_ahead {w : TWord} {e : List TNode} {i j : Nat} (hi : i ≤ e.length) (hj : j < i) : (accum (fun n rows => rowN n rows w) [] (e.take i)).getD j default = (tabN w e).getD j default := by
  unfold tabN; exact accum_take _ default e hi hj
theorem col_get {rows : List (List Bool)} {p i : Nat} : (colAt rows p).getD i default = (rows.getD i default).getD p default := by
  by_cases h : i < rows.length
  · exact colAt_get h
  · unfold colAt
    have h1 : (rows.map fun r => r.getD p default)[i]? = none := List.getElem?_eq_none (by simpa using h)
    have h2 : rows[i]? = none := List.getElem?_eq_none (by omega)
    rw [List.getD_eq_getElem?_getD, h1, List.getD_eq_getElem?_getD (l := rows), h2]; rfl
theorem cell_congr {n : TNode} {i : Nat} (hn : NodeAt ltP i n) {rs us : List (List Bool)} (h : ∀ j, j < i → rs.getD j default = us.getD j default) (w : TWord) (p : Nat) (b : Bool) : cellN n rs w p b = cellN n us w p b := by
  obtain ⟨g1, g2⟩ := node_parts hn
  unfold cellN
  have e7 : (if n.kind = 7 then (rs.getD n.a.toNat default).getD (nxN w p) default else b) = (if n.kind = 7 then (us.getD n.a.toNat default).getD (nxN w p) default else b) := by
    split
    · rw [h _ (g1 (by omega) (by omega)).2]
    · rfl
  rw [e7]
  refine soV_congr (fun k1 k2 => ?_) fun k1 => ?_
  · rw [col_get, col_get, h _ (g1 k1 k2).2]
  · rw [col_get, col_get, h _ (g2 k1).2]
/-- What a node's row says at a place, by the column there and what is so next. -/
theorem tab_step {w : TWord} (hw : WOk w) {e : List TNode} (he : Nodes ltP e) {i p : Nat} (hi : i < e.length) (hp : p < plN w) :
    ((tabN w e).getD i default).getD p default = cellN (e.getD i default) (tabN w e) w p (((tabN w e).getD i default).getD (nxN w p) default) := by
  have h1 := row_step hw (e.getD i default) (accum (fun n rows => rowN n rows w) [] (e.take i)) hp
  rw [← tab_get hi] at h1
  rw [h1]
  exact cell_congr (he.2.2 i hi) (fun j hj => tab_ahead (by omega) hj) w p _
theorem tabRow_len {w : TWord} {e : List TNode} {i : Nat} (hi : i < e.length) : ((tabN w e).getD i default).length = plN w := by rw [tab_get hi, rowN_len]
end Go.Proofs.Ytjjlkncefgfljaa
end

/- Words whose places go along: what a formula says of the one it says of the other. -/
section
namespace Go.Proofs.Ytjjlkncefgfljaa
open Go Go.RowKit E
set_option linter.unusedVariables false

/-- So many steps on from a place, with c behind them. -/
def unr (f : Nat → Bool → Bool) (nx : Nat → Nat) (c : Bool) : Nat → Nat → Bool
  | 0, _ => c
  | k + 1, p => f p (unr f nx c k (nx p))
theorem unr_down {f : Nat → Bool → Bool} {nx : Nat → Nat} {n s : Nat} (hnx : ∀ k, k < n → nx k = if k + 1 = n then s else k + 1) (c : Bool) (m : Nat) : ∀ d j, j + (d + 1) = n → unr f nx c (d + 1 + m) j = downN f (d + 1) j (unr f nx c m s)
  | 0, j, h => by
    rw [show 0 + 1 + m = m + 1 by omega]
    show f j (unr f nx c m (nx j)) = f j _
    rw [hnx j (by omega), if_pos (by omega)]; rfl
  | d + 1, j, h => by
    rw [show d + 1 + 1 + m = (d + 1 + m) + 1 by omega]
    show f j (unr f nx c (d + 1 + m) (nx j)) = f j (downN f (d + 1) (j + 1) _)
    rw [hnx j (by omega), if_neg (by omega), unr_down hnx c m d (j + 1) (by omega)]
def Mono2 (f : Nat → Bool → Bool) (c : Bool) : Prop := ∀ p, f p c = !c → f p (!c) = !c
theorem mono2 {f : Nat → Bool → Bool} (h : Mono f) (c : Bool) : Mono2 f c := by
  intro p
  have := h p
  cases c <;> cases h0 : f p false <;> cases h1 : f p true <;> simp_all
theorem unr_up {f : Nat → Bool → Bool} {nx : Nat → Nat} {c : Bool} (h : Mono2 f c) : ∀ k p, unr f nx c k p = !c → unr f nx c (k + 1) p = !c
  | 0, p, g => by cases c <;> cases g
  | k + 1, p, g => by
    have g : f p (unr f nx c k (nx p)) = !c := g
    show f p (unr f nx c (k + 1) (nx p)) = !c
    by_cases b : unr f nx c k (nx p) = !c
    · rw [unr_up h k (nx p) b]; rw [b] at g; exact g
    · have b : unr f nx c k (nx p) = c := by cases c <;> simp_all
      rw [b] at g
      by_cases d : unr f nx c (k + 1) (nx p) = c
      · rw [d]; exact g
      · have d : unr f nx c (k + 1) (nx p) = !c := by cases c <;> simp_all
        rw [d]; exact h p g
theorem unr_far {f : Nat → Bool → Bool} {nx : Nat → Nat} {c : Bool} (h : Mono2 f c) {k p : Nat} (g : unr f nx c k p = !c) : ∀ m, unr f nx c (k + m) p = !c
  | 0 => g
  | m + 1 => unr_up h (k + m) p (unr_far h g m)
theorem unr_fix {f : Nat → Bool → Bool} {nx : Nat → Nat} {c : Bool} (h : Mono2 f c) {n : Nat} (hn : ∀ p, p < n → nx p < n) {v : Nat → Bool} (hv : ∀ p, p < n → v p = f p (v (nx p))) : ∀ k p, p < n → unr f nx c k p = !c → v p = !c
  | 0, p, _, g => by cases c <;> cases g
  | k + 1, p, hp, g => by
    have g : f p (unr f nx c k (nx p)) = !c := g
    rw [hv p hp]
    by_cases b : unr f nx c k (nx p) = !c
    · rw [unr_fix h hn hv k (nx p) (hn p hp) b]; rw [b] at g; exact g
    · have b : unr f nx c k (nx p) = c := by cases c <;> simp_all
      rw [b] at g
      by_cases d : v (nx p) = c
      · rw [d]; exact g
      · have d : v (nx p) = !c := by cases c <;> simp_all
        rw [d]; exact h p g
def cz (n : TNode) : Bool := decide (n.kind = 9) || decide (n.kind = 11)
theorem row_unr {w : TWord} (hw : WOk w) (n : TNode) (rows : List (List Bool)) {p : Nat} (hp : p < plN w) {K : Nat} (hK : 2 * plN w ≤ K) : (rowN n rows w).getD p default = unr (cellN n rows w) (nxN w) (cz n) K p := by
  have hs : w.stem.length < plN w := by have := hw.one; unfold plN; omega
  have hnx : ∀ k, k < plN w → nxN w k = if k + 1 = plN w then w.stem.length else k + 1 := fun k _ => nx_if k
  have hm := mono2 (cell_mono n rows w) (cz n)
  have hl0 : (row0 n w).length = plN w := by simp [row0]
  have hl1 : (passN (cellN n rows w) (nxN w) (plN w) (row0 n w)).length = plN w := by rw [passN_len]; exact hl0
  have e0 : (row0 n w).getD w.stem.length default = cz n := by
    unfold row0 cz
    rw [List.getD_eq_getElem?_getD, List.getElem?_replicate, if_pos hs]; rfl
  have v0 : (rowN n rows w).getD p default = unr (cellN n rows w) (nxN w) (cz n) ((plN w - p) + (plN w - w.stem.length)) p := by
    unfold rowN
    rw [pass_all hnx hs _ hl1 p hp, pass_all hnx hs _ hl0 _ hs, e0]
    have a1 := unr_down (f := cellN n rows w) hnx (cz n) 0 (plN w - w.stem.length - 1) w.stem.length (by omega)
    have a2 := unr_down (f := cellN n rows w) hnx (cz n) (plN w - w.stem.length) (plN w - p - 1) p (by omega)
    rw [show plN w - w.stem.length - 1 + 1 + 0 = plN w - w.stem.length by omega] at a1
    rw [show plN w - p - 1 + 1 + (plN w - w.stem.length) = plN w - p + (plN w - w.stem.length) by omega, show plN w - p - 1 + 1 = plN w - p by omega, a1] at a2
    exact a2.symm
  by_cases c : (rowN n rows w).getD p default = !(cz n)
  · rw [c]
    rw [c] at v0
    have := unr_far hm v0.symm (K - ((plN w - p) + (plN w - w.stem.length)))
    rw [show (plN w - p) + (plN w - w.stem.length) + (K - ((plN w - p) + (plN w - w.stem.length))) = K by omega] at this
    exact this.symm
  · have hno : ¬ unr (cellN n rows w) (nxN w) (cz n) K p = !(cz n) := fun k => c (unr_fix hm (n := plN w) (fun p hp => nxN_lt hw hp) (v := fun p => (rowN n rows w).getD p default) (fun p hp => row_step hw n rows hp) K p hp k)
    have e : ∀ a b : Bool, ¬ a = !b → a = b := by decide
    rw [e _ _ c, e _ _ hno]
/-- Places of w' that go along with places of w. -/
structure Mo (w w' : TWord) (φ : Nat → Nat) : Prop where
  lt : ∀ p, p < plN w' → φ p < plN w
  nx : ∀ p, p < plN w' → φ (nxN w' p) = nxN w (φ p)
  le : ∀ p, p < plN w' → letN w' p = letN w (φ p)
theorem Mo.unr {w w' : TWord} {φ : Nat → Nat} (hw' : WOk w') (h : Mo w w' φ) {f g : Nat → Bool → Bool} (hf : ∀ p b, p < plN w' → g p b = f (φ p) b) (c : Bool) : ∀ k p, p < plN w' → unr g (nxN w') c k p = unr f (nxN w) c k (φ p)
  | 0, p, _ => rfl
  | k + 1, p, hp => by
    show g p _ = f (φ p) _
    rw [hf p _ hp, Mo.unr hw' h hf c k _ (nxN_lt hw' hp), h.nx p hp]
theorem Mo.tab {w w' : TWord} {φ : Nat → Nat} (hw : WOk w) (hw' : WOk w') (h : Mo w w' φ) {e : List TNode} (he : Nodes ltP e) (i : Nat) : i < e.length → ∀ p, p < plN w' → ((tabN w' e).getD i default).getD p default = ((tabN w e).getD i default).getD (φ p) default := by
  induction i using Nat.strongRecOn with
  | _ i ih =>
    intro hi p hp
    have hn := he.2.2 i hi
    obtain ⟨g1, g2⟩ := node_parts hn
    have hf : ∀ p b, p < plN w' → cellN (e.getD i default) (accum (fun n rows => rowN n rows w') [] (e.take i)) w' p b = cellN (e.getD i default) (accum (fun n rows => rowN n rows w) [] (e.take i)) w (φ p) b := by
      intro p b hp
      unfold cellN
      have e7 : (if (e.getD i default).kind = 7 then ((accum (fun n rows => rowN n rows w') [] (e.take i)).getD (e.getD i default).a.toNat default).getD (nxN w' p) default else b) = (if (e.getD i default).kind = 7 then ((accum (fun n rows => rowN n rows w) [] (e.take i)).getD (e.getD i default).a.toNat default).getD (nxN w (φ p)) default else b) := by
        split
        · have ha := (g1 (by omega) (by omega)).2
          rw [tab_ahead (by omega) ha, tab_ahead (by omega) ha, ih _ ha (by omega) _ (nxN_lt hw' hp), h.nx p hp]
        · rfl
      rw [e7, h.le p hp]
      refine soV_congr (fun k1 k2 => ?_) fun k1 => ?_
      · have ha := (g1 k1 k2).2
        rw [col_get, col_get, tab_ahead (by omega) ha, tab_ahead (by omega) ha, ih _ ha (by omega) p hp]
      · have hb := (g2 k1).2
        rw [col_get, col_get, tab_ahead (by omega) hb, tab_ahead (by omega) hb, ih _ hb (by omega) p hp]
    rw [tab_get hi, tab_get hi, row_unr hw' _ _ hp (K := 2 * plN w' + 2 * plN w) (by omega), row_unr hw _ _ (h.lt p hp) (K := 2 * plN w' + 2 * plN w) (by omega)]
    exact h.unr hw' hf _ _ p hp
end Go.Proofs.Ytjjlkncefgfljaa
end

/- What a formula says of a word from a number on: the program and the reference say the same. -/
section
namespace Go.Proofs.Ytjjlkncefgfljaa
open Go Go.RowKit E
set_option linter.unusedVariables false

/-- The place of a number. -/
def plcN (w : TWord) (i : Nat) : Nat := if i < w.stem.length then i else w.stem.length + (i - w.stem.length) % w.loop.length
theorem plcN_lt {w : TWord} (h : WOk w) (i : Nat) : plcN w i < plN w := by
  have := h.one
  unfold plcN plN
  split
  · omega
  · have := Nat.mod_lt (i - w.stem.length) (show 0 < w.loop.length by omega)
    omega
theorem placeOf_eq {w : TWord} (h : WOk w) {i : Int} (h0 : 0 ≤ i) (h1 : i ≤ 9223372036854775807) : impl_Word_placeOf w i = some (plcN w i.toNat : Int) := by
  have h2 := h.stem; have h3 := h.loop; have h4 := h.one
  unfold impl_Word_placeOf plcN
  by_cases c : i < (w.stem.length : Int)
  · rw [if_pos c, if_pos (by omega), Int.toNat_of_nonneg h0]
  · have hm := Nat.mod_lt (i.toNat - w.stem.length) (show 0 < w.loop.length by omega)
    rw [if_neg c, decide_eq_true (by omega), chk_t, Option.bind_some, if_neg (by omega)]
    rw [show W (i - (w.stem.length : Int)) = ((i.toNat - w.stem.length : Nat) : Int) by rw [W, W_eq (by omega) (by omega)]; omega, ← Int.ofNat_tmod, W, W_eq (by omega) (by omega)]
    rfl
noncomputable def ltAt (e : List TNode) (w : TWord) (i : Int) : Bool := if treeOk ltP e = true ∧ wordOk w 8 = true ∧ 0 ≤ i then ((tabN w e).getD (e.length - 1) default).getD (plcN w i.toNat) default else false
theorem specAt_eq (e : List TNode) (w : TWord) (i : Int) (wi : inI i) : spec_LtlAt e w i = some (ltAt e w i) := by
  unfold inI at wi
  unfold spec_LtlAt ltAt
  rw [specTable_eq, Option.bind_some, bnd_eq]
  unfold ltTable
  by_cases g : treeOk ltP e = true ∧ wordOk w 8 = true
  · rw [if_pos g]
    have he := treeOk_nodes g.1
    have hw := (wordOk_t g.2).1
    have hT := tabN_len w e
    have h1 := he.1; have h2 := he.2.1
    have h3 := hw.stem; have h4 := hw.loop; have h5 := hw.one
    rw [decide_eq_false (by omega), Bool.false_or]
    by_cases c : i < 0
    · rw [if_pos (by simpa using c), if_neg (fun q => by omega)]
    · rw [if_neg (by simpa using c)]
      conv => rhs; rw [if_pos (show treeOk ltP e = true ∧ wordOk w 8 = true ∧ 0 ≤ i from ⟨g.1, g.2, by omega⟩)]
      have hR : RowsOk (tabN w e) (plN w) := by have := tabN_rows w e e.length (Nat.le_refl _); rw [List.take_length] at this; exact this
      have hp := plcN_lt hw i.toNat
      have fin : spec_LtlAt.k0 (tabN w e) (plcN w i.toNat : Int) = some (((tabN w e).getD (e.length - 1) default).getD (plcN w i.toNat) default) := by
        unfold spec_LtlAt.k0
        rw [hT, W, W_eq (by omega) (by omega), show (e.length : Int) - 1 = ((e.length - 1 : Nat) : Int) by omega]
        first
          | rw [ck_nat (by omega), Option.bind_some, show ([] : List Bool) = default from rfl, ix_nat (by rw [hR _ (by omega)]; exact hp)]; rfl
          | rw [ix_nat (by omega), Option.bind_some, ix_nat (by rw [hR _ (by omega)]; exact hp)]; rfl
      by_cases c2 : i < (w.stem.length : Int)
      · rw [if_neg (by omega)]
        have : plcN w i.toNat = i.toNat := by unfold plcN; rw [if_pos (by omega)]
        rw [this] at fin ⊢
        rw [Int.toNat_of_nonneg (by omega)] at fin
        exact fin
      · rw [if_pos (by omega), decide_eq_true (by omega), chk_t, Option.bind_some]
        have hm := Nat.mod_lt (i.toNat - w.stem.length) (show 0 < w.loop.length by omega)
        rw [show W (i - (w.stem.length : Int)) = ((i.toNat - w.stem.length : Nat) : Int) by rw [W, W_eq (by omega) (by omega)]; omega, ← Int.ofNat_tmod, W, W_eq (by omega) (by omega)]
        have : (plcN w i.toNat : Int) = (w.stem.length : Int) + ((i.toNat - w.stem.length) % w.loop.length : Nat) := by unfold plcN; rw [if_neg (by omega)]; rfl
        rw [← this]; exact fin
  · rw [if_neg g, if_pos (by simp), if_neg (fun q => g ⟨q.1, q.2.1⟩)]
theorem implAt_eq (e : List TNode) (w : TWord) (i : Int) (wi : inI i) : impl_LtlAt e w i = some (ltAt e w i) := by
  unfold inI at wi
  unfold impl_LtlAt ltAt
  rw [bnd_eq]
  by_cases c : i < 0
  · rw [decide_eq_true c, Bool.not_true, whenO_f, Option.bind_some, bnd_eq, Bool.true_or, Bool.not_true, whenO_f, Option.bind_some, Bool.true_or, if_pos rfl, if_neg (fun q => by omega)]
  · rw [decide_eq_false c, Bool.not_false, whenO_t, implLtlOk_eq, Option.bind_some, bnd_eq, Bool.false_or]
    by_cases h : treeOk ltP e = true
    · rw [h, Bool.not_true, Bool.not_false, whenO_t, isRight_eq, Option.bind_some, Bool.false_or]
      by_cases g : wordOk w 8 = true
      · rw [if_neg (by simp [g]), if_pos ⟨rfl, g, by omega⟩]
        have he := treeOk_nodes h
        have hw := (wordOk_t g).1
        have hT := tabN_len w e
        have h1 := he.1; have h2 := he.2.1
        have hR : RowsOk (tabN w e) (plN w) := by have := tabN_rows w e e.length (Nat.le_refl _); rw [List.take_length] at this; exact this
        have hp := plcN_lt hw i.toNat
        rw [tableOf_eq he hw, Option.bind_some, W, W_eq (by omega) (by omega), show (e.length : Int) - 1 = ((e.length - 1 : Nat) : Int) by omega]
        first
          | rw [ck_nat (by omega), Option.bind_some, placeOf_eq hw (by omega) wi.2, Option.bind_some, show ([] : List Bool) = default from rfl, ix_nat (by rw [hR _ (by omega)]; exact hp)]; rfl
          | rw [ix_nat (by omega), Option.bind_some, placeOf_eq hw (by omega) wi.2, Option.bind_some, ix_nat (by rw [hR _ (by omega)]; exact hp)]; rfl
      · rw [if_pos (by simpa using g), if_neg (fun q => g q.2.1)]
    · rw [Bool.not_eq_true] at h
      rw [h, Bool.not_false, Bool.not_true, whenO_f, Option.bind_some, Bool.true_or, if_pos rfl, if_neg (by simp)]
end Go.Proofs.Ytjjlkncefgfljaa
end

/- The word from a number on; a word with a shorter loop, with its stem's end taken into its loop: their places go along with the word's. -/
section
namespace Go.Proofs.Ytjjlkncefgfljaa
open Go Go.RowKit E
set_option linter.unusedVariables false

def R8 (w : TWord) : Prop := w.stem.length ≤ 40 ∧ (1 ≤ w.loop.length ∧ w.loop.length ≤ 40) ∧ (∀ x ∈ w.stem, 0 ≤ x ∧ x ≤ 7) ∧ ∀ x ∈ w.loop, 0 ≤ x ∧ x ≤ 7
theorem letters8 (l : List Int) : lettersOk l 8 = true ↔ ∀ x ∈ l, 0 ≤ x ∧ x ≤ 7 := by
  unfold lettersOk
  rw [List.all_eq_true, show W (8 - 1) = 7 from rfl]
  constructor
  · intro h x hx
    obtain ⟨i, hi, rfl⟩ := List.getElem_of_mem hx
    have := h i (List.mem_range.mpr hi)
    simpa [hi] using this
  · intro h i hi
    have hi := List.mem_range.mp hi
    have := h _ (List.getElem_mem hi)
    simpa [hi] using this
theorem ok_iff (w : TWord) : wordOk w 8 = true ↔ R8 w := by
  unfold wordOk R8
  simp only [Bool.and_eq_true, decide_eq_true_eq, letters8]
  constructor
  · rintro ⟨⟨⟨⟨_, h2⟩, h3⟩, h4⟩, h5⟩; exact ⟨h2, h3, h4, h5⟩
  · rintro ⟨h2, h3, h4, h5⟩; exact ⟨⟨⟨⟨by decide, h2⟩, h3⟩, h4⟩, h5⟩
theorem R8.wok {w : TWord} (h : R8 w) : WOk w := (wordOk_t ((ok_iff w).mpr h)).1
/-- What a formula says of a word from its first place on it says of the other. -/
def EQ (w w' : TWord) : Prop := R8 w' ∧ ∀ e : List TNode, Nodes ltP e → ∀ i, i < e.length → ((tabN w' e).getD i default).getD 0 default = ((tabN w e).getD i default).getD 0 default
theorem EQ.refl {w : TWord} (h : R8 w) : EQ w w := ⟨h, fun _ _ _ _ => rfl⟩
theorem EQ.step {w w1 w2 : TWord} (h : EQ w w1) (h2 : R8 w2) {φ : Nat → Nat} (hm : Mo w2 w1 φ) (h0 : φ 0 = 0) : EQ w w2 := by
  refine ⟨h2, fun e he i hi => ?_⟩
  have hp : 0 < plN w1 := by have := h.1.2.1.1; unfold plN; omega
  have := hm.tab h2.wok h.1.wok he i hi 0 hp
  rw [h0] at this
  rw [← this]; exact h.2 e he i hi
theorem plc0 (w : TWord) : plcN w 0 = 0 := by
  unfold plcN
  split
  · rfl
  · rename_i h
    rw [Nat.zero_sub, Nat.zero_mod]; omega
theorem getD_drop' (l : List Int) (i p : Nat) : (l.drop i).getD p default = l.getD (p + i) default := by
  rw [List.getD_eq_getElem?_getD, List.getD_eq_getElem?_getD, List.getElem?_drop, Nat.add_comm]
theorem getD_take' (l : List Int) {i p : Nat} (h : p < i) : (l.take i).getD p default = l.getD p default := by
  rw [List.getD_eq_getElem?_getD, List.getD_eq_getElem?_getD, List.getElem?_take_of_lt h]
theorem rot_get (l : List Int) {t p : Nat} (ht : t ≤ l.length) (hp : p < l.length) : (l.drop t ++ l.take t).getD p default = if p + t < l.length then l.getD (p + t) default else l.getD (p + t - l.length) default := by
  have hl : (l.drop t).length = l.length - t := List.length_drop
  by_cases c : p + t < l.length
  · rw [if_pos c, List.getD_eq_getElem?_getD, List.getElem?_append_left (by omega), ← List.getD_eq_getElem?_getD, getD_drop']
  · rw [if_neg c, List.getD_eq_getElem?_getD, List.getElem?_append_right (by omega), hl, ← List.getD_eq_getElem?_getD, getD_take' _ (by omega)]
    congr 1; omega
def tailW (w : TWord) (i : Nat) : TWord := if i < w.stem.length then ⟨w.stem.drop i, w.loop⟩ else ⟨[], w.loop.drop ((i - w.stem.length) % w.loop.length) ++ w.loop.take ((i - w.stem.length) % w.loop.length)⟩
theorem tail_ok {w : TWord} (h : R8 w) (i : Nat) : R8 (tailW w i) := by
  obtain ⟨h1, h2, h3, h4⟩ := h
  unfold tailW
  split
  · exact ⟨by show (w.stem.drop i).length ≤ 40; rw [List.length_drop]; omega, h2, fun x hx => h3 x (List.mem_of_mem_drop hx), h4⟩
  · have hm := Nat.mod_lt (i - w.stem.length) (show 0 < w.loop.length by omega)
    have hl : (w.loop.drop ((i - w.stem.length) % w.loop.length) ++ w.loop.take ((i - w.stem.length) % w.loop.length)).length = w.loop.length := by
      rw [List.length_append, List.length_drop, List.length_take]; omega
    refine ⟨Nat.zero_le _, by show 1 ≤ List.length _ ∧ List.length _ ≤ 40; rw [hl]; exact h2, fun x hx => (by cases hx), fun x hx => ?_⟩
    rcases List.mem_append.mp hx with hx | hx
    · exact h4 x (List.mem_of_mem_drop hx)
    · exact h4 x (List.mem_of_mem_take hx)
theorem tail_mo {w : TWord} (h : WOk w) (i : Nat) : ∃ φ, Mo w (tailW w i) φ ∧ φ 0 = plcN w i := by
  have hone := h.one
  unfold tailW plcN
  by_cases c : i < w.stem.length
  · rw [if_pos c, if_pos c]
    refine ⟨fun p => p + i, ⟨fun p hp => ?_, fun p hp => ?_, fun p hp => ?_⟩, by simp⟩
    · unfold plN at hp ⊢
      dsimp only at hp
      rw [List.length_drop] at hp; omega
    · unfold plN at hp
      dsimp only at hp
      unfold nxN plN
      dsimp only
      rw [List.length_drop] at hp ⊢
      split <;> split <;> omega
    · unfold plN at hp
      dsimp only at hp
      unfold letN
      dsimp only
      rw [List.length_drop] at hp ⊢
      by_cases d : p < w.stem.length - i
      · rw [if_pos d, if_pos (by omega), getD_drop']
      · rw [if_neg d, if_neg (by omega)]
        congr 2; omega
  · rw [if_neg c, if_neg c]
    have hm := Nat.mod_lt (i - w.stem.length) (show 0 < w.loop.length by omega)
    generalize (i - w.stem.length) % w.loop.length = t at hm
    have hl : (w.loop.drop t ++ w.loop.take t).length = w.loop.length := by
      rw [List.length_append, List.length_drop, List.length_take]; omega
    refine ⟨fun p => w.stem.length + (if p + t < w.loop.length then p + t else p + t - w.loop.length), ⟨fun p hp => ?_, fun p hp => ?_, fun p hp => ?_⟩, by dsimp only; rw [if_pos (by omega)]; omega⟩
    · unfold plN at hp ⊢
      dsimp only at hp ⊢
      rw [hl, List.length_nil] at hp
      split <;> omega
    · unfold plN at hp
      dsimp only at hp
      unfold nxN plN
      dsimp only
      rw [hl, List.length_nil] at hp ⊢
      by_cases d1 : p + 1 = 0 + w.loop.length
      · rw [if_pos d1, if_pos (by omega : 0 + t < w.loop.length)]
        by_cases d2 : p + t < w.loop.length
        · rw [if_pos d2, if_pos (by omega)]; omega
        · rw [if_neg d2, if_neg (by omega)]; omega
      · rw [if_neg d1]
        by_cases d2 : p + t < w.loop.length
        · rw [if_pos d2]
          by_cases d3 : p + 1 + t < w.loop.length
          · rw [if_pos d3, if_neg (by omega)]; omega
          · rw [if_neg d3, if_pos (by omega)]; omega
        · rw [if_neg d2, if_neg (by omega : ¬ p + 1 + t < w.loop.length), if_neg (by omega)]; omega
    · unfold plN at hp
      dsimp only at hp
      rw [hl, List.length_nil] at hp
      unfold letN
      dsimp only
      rw [List.length_nil, if_neg (by omega), Nat.sub_zero, rot_get _ (by omega) (by omega)]
      by_cases d : p + t < w.loop.length
      · rw [if_pos d, if_pos d, if_neg (by omega), Nat.add_sub_cancel_left]
      · rw [if_neg d, if_neg d, if_neg (by omega), Nat.add_sub_cancel_left]
/-- A length after which a loop comes again. -/
def Per (l : List Int) (d : Nat) : Prop := 1 ≤ d ∧ d ≤ l.length ∧ l.length % d = 0 ∧ ∀ k, k + d < l.length → l.getD (k + d) default = l.getD k default
theorem per_mod {l : List Int} {d : Nat} (h : Per l d) (k : Nat) : k < l.length → l.getD k default = l.getD (k % d) default := by
  induction k using Nat.strongRecOn with
  | _ k ih =>
    intro hk
    have h1 := h.1
    by_cases c : k < d
    · rw [Nat.mod_eq_of_lt c]
    · have e := h.2.2.2 (k - d) (by omega)
      rw [show k - d + d = k by omega] at e
      rw [e, ih (k - d) (by omega) (by omega), ← Nat.mod_eq_sub_mod (by omega)]
theorem mod_next {d : Nat} (h : 1 ≤ d) (k : Nat) : (k + 1) % d = if k % d + 1 = d then 0 else k % d + 1 := by
  have hm := Nat.mod_lt k (show 0 < d by omega)
  rw [← Nat.mod_add_mod]
  split
  · rename_i e; rw [e, Nat.mod_self]
  · rw [Nat.mod_eq_of_lt (by omega)]
theorem per_ok {w : TWord} (h : R8 w) {d : Nat} (hd : Per w.loop d) : R8 ⟨w.stem, w.loop.take d⟩ := by
  obtain ⟨h1, h2, h3, h4⟩ := h
  obtain ⟨d1, d2, _⟩ := hd
  exact ⟨h1, by show 1 ≤ (w.loop.take d).length ∧ (w.loop.take d).length ≤ 40; rw [List.length_take]; omega, h3, fun x hx => h4 x (List.mem_of_mem_take hx)⟩
theorem per_mo {w : TWord} (h : WOk w) {d : Nat} (hd : Per w.loop d) : ∃ φ, Mo ⟨w.stem, w.loop.take d⟩ w φ ∧ φ 0 = 0 := by
  have hone := h.one
  obtain ⟨d1, d2, d3, _⟩ := hd
  have hl : (w.loop.take d).length = d := by rw [List.length_take]; omega
  have hlt : ∀ k, k % d < d := fun k => Nat.mod_lt k (by omega)
  refine ⟨fun p => if p < w.stem.length then p else w.stem.length + (p - w.stem.length) % d, ⟨fun p hp => ?_, fun p hp => ?_, fun p hp => ?_⟩, ?_⟩
  · have := hlt (p - w.stem.length)
    unfold plN at hp ⊢
    dsimp only
    rw [hl]
    split <;> omega
  · unfold plN at hp
    have hr : ∀ q, nxN ⟨w.stem, w.loop.take d⟩ q = if q + 1 = w.stem.length + d then w.stem.length else q + 1 := fun q => by unfold nxN plN; dsimp only; rw [hl]
    have hn : nxN w p = if p + 1 = w.stem.length + w.loop.length then w.stem.length else p + 1 := rfl
    rw [hr, hn]
    by_cases c : p < w.stem.length
    · rw [if_neg (by omega : ¬ p + 1 = w.stem.length + w.loop.length)]
      rw [if_pos c, if_neg (by omega : ¬ p + 1 = w.stem.length + d)]
      by_cases c2 : p + 1 < w.stem.length
      · rw [if_pos c2]
      · rw [if_neg c2, show p + 1 - w.stem.length = 0 by omega, Nat.zero_mod]; omega
    · obtain ⟨k, rfl⟩ : ∃ k, p = w.stem.length + k := ⟨p - w.stem.length, by omega⟩
      have hk := mod_next d1 k
      have hkl := hlt k
      rw [if_neg c, Nat.add_sub_cancel_left]
      by_cases c2 : w.stem.length + k + 1 = w.stem.length + w.loop.length
      · have e : (k + 1) % d = 0 := by rw [show k + 1 = w.loop.length by omega]; exact d3
        rw [if_pos c2, if_neg (by omega), Nat.sub_self, Nat.zero_mod]
        rw [e] at hk
        split at hk
        · rw [if_pos (by omega)]; rfl
        · omega
      · rw [if_neg c2, if_neg (by omega), show w.stem.length + k + 1 - w.stem.length = k + 1 by omega, hk]
        by_cases c3 : k % d + 1 = d
        · rw [if_pos c3, if_pos (by omega)]; rfl
        · rw [if_neg c3, if_neg (by omega)]; omega
  · unfold plN at hp
    unfold letN
    dsimp only
    by_cases c : p < w.stem.length
    · rw [if_pos c, if_pos c, if_pos c]
    · have := hlt (p - w.stem.length)
      rw [if_neg c, if_neg c, if_neg (by omega), Nat.add_sub_cancel_left, getD_take' _ this, per_mod ⟨d1, d2, d3, by assumption⟩ _ (by omega)]
  · dsimp only
    split
    · rfl
    · rename_i c
      rw [Nat.zero_sub, Nat.zero_mod]; omega
/-- The stem's last letter taken into the loop. -/
def inW (w : TWord) : TWord := ⟨w.stem.take (w.stem.length - 1), w.loop.drop (w.loop.length - 1) ++ w.loop.take (w.loop.length - 1)⟩
theorem in_ok {w : TWord} (h : R8 w) : R8 (inW w) := by
  obtain ⟨h1, h2, h3, h4⟩ := h
  have hl : (w.loop.drop (w.loop.length - 1) ++ w.loop.take (w.loop.length - 1)).length = w.loop.length := by
    rw [List.length_append, List.length_drop, List.length_take]; omega
  refine ⟨by show (w.stem.take _).length ≤ 40; rw [List.length_take]; omega, by show 1 ≤ (w.loop.drop (w.loop.length - 1) ++ w.loop.take (w.loop.length - 1)).length ∧ (w.loop.drop (w.loop.length - 1) ++ w.loop.take (w.loop.length - 1)).length ≤ 40; rw [hl]; exact h2, fun x hx => h3 x (List.mem_of_mem_take hx), fun x hx => ?_⟩
  rcases List.mem_append.mp hx with hx | hx
  · exact h4 x (List.mem_of_mem_drop hx)
  · exact h4 x (List.mem_of_mem_take hx)
theorem in_mo {w : TWord} (h : WOk w) (hs : 0 < w.stem.length) (he : w.stem.getD (w.stem.length - 1) default = w.loop.getD (w.loop.length - 1) default) : ∃ φ, Mo (inW w) w φ ∧ φ 0 = 0 := by
  have hone := h.one
  have hl : (w.loop.drop (w.loop.length - 1) ++ w.loop.take (w.loop.length - 1)).length = w.loop.length := by
    rw [List.length_append, List.length_drop, List.length_take]; omega
  have hl2 : (w.stem.take (w.stem.length - 1)).length = w.stem.length - 1 := by rw [List.length_take]; omega
  refine ⟨fun p => if p = w.stem.length - 1 + w.loop.length then w.stem.length - 1 else p, ⟨fun p hp => ?_, fun p hp => ?_, fun p hp => ?_⟩, by dsimp only; rw [if_neg (by omega)]⟩
  · unfold plN at hp ⊢
    unfold inW
    dsimp only
    rw [hl, hl2]
    split <;> omega
  · unfold plN at hp
    unfold nxN plN inW
    dsimp only
    rw [hl, hl2]
    (repeat' split) <;> omega
  · unfold plN at hp
    have hq : ∀ q, letN (inW w) q = (if q < w.stem.length - 1 then (w.stem.take (w.stem.length - 1)).getD q default else (w.loop.drop (w.loop.length - 1) ++ w.loop.take (w.loop.length - 1)).getD (q - (w.stem.length - 1)) default).toNat := fun q => by
      unfold letN inW; dsimp only; rw [hl2]
    have hw : letN w p = (if p < w.stem.length then w.stem.getD p default else w.loop.getD (p - w.stem.length) default).toNat := rfl
    rw [hq, hw]
    by_cases c : p < w.stem.length - 1
    · rw [if_neg (by omega : ¬ p = w.stem.length - 1 + w.loop.length), if_pos (by omega : p < w.stem.length), if_pos c, getD_take' _ c]
    · by_cases c1 : p = w.stem.length - 1
      · rw [if_neg (by omega : ¬ p = w.stem.length - 1 + w.loop.length), if_pos (by omega : p < w.stem.length), if_neg c, c1, Nat.sub_self, rot_get _ (by omega) (by omega), he, if_pos (by omega), Nat.zero_add]
      · rw [if_neg (by omega : ¬ p < w.stem.length)]
        by_cases c2 : p = w.stem.length - 1 + w.loop.length
        · rw [if_pos c2, if_neg (by omega), Nat.sub_self, rot_get _ (by omega) (by omega), if_pos (by omega), Nat.zero_add]
          congr 2; omega
        · rw [if_neg c2, if_neg c, rot_get _ (by omega) (by omega), if_neg (by omega)]
          congr 2; omega
end Go.Proofs.Ytjjlkncefgfljaa
end

/- Rows of numbers cloned, compared. -/
section
namespace Go.Proofs.Ytjjlkncefgfljaa
open Go Go.RowKit E
set_option linter.unusedVariables false

theorem clone_eq (x : List Int) (h : x.length ≤ 1000000) : slices_Clone_int_int x = some x := by
  unfold slices_Clone_int_int
  split
  · rename_i e; rw [e]
  · rw [app_small (by simp; omega) (by decide), List.nil_append, Option.bind_some]
theorem equal_eq (x y : List Int) (h : x.length ≤ 1000000) : slices_Equal_int_int x y = some (decide (x = y)) := by
  unfold slices_Equal_int_int
  by_cases hl : x.length = y.length
  · rw [if_neg (by omega)]
    have hb : (fun s : Int => slices_Equal_int_int.b0 x y s) = (fun s : Int => if s < (x.length : Int) then (ix x s).bind fun a => (ix y s).bind fun b => ((fun a b : Int => some (decide (a = b))) a b).bind fun c => if (!c) = true then some (.inr (.inr false)) else some (.inl (W (s + 1))) else some (.inr (.inl ()))) := by
      funext s
      unfold slices_Equal_int_int.b0
      split
      · congr 1; funext a; congr 1; funext b
        simp
      · rfl
    rw [hb, eq_loop (fun a b : Int => some (decide (a = b))) (fun _ _ => rfl) x y hl (by omega), Option.bind_some]
    by_cases e : x = y
    · rw [if_pos e, Sum.elim_inl, slices_Equal_int_int.k0, decide_eq_true e]
    · rw [if_neg e, Sum.elim_inr, decide_eq_false e]
  · rw [if_pos (by omega), decide_eq_false (fun e => hl (by rw [e]))]
end Go.Proofs.Ytjjlkncefgfljaa
end

/- The program's word from a number on, and its shortest form of a word. -/
section
namespace Go.Proofs.Ytjjlkncefgfljaa
open Go Go.RowKit E
set_option linter.unusedVariables false

theorem concat_eq {x y : List Int} (h : x.length + y.length ≤ 1000000) : slices_Concat_int_int [x, y] = some (x ++ y) := by
  unfold slices_Concat_int_int
  have a1 : (fun s : Int × Int => slices_Concat_int_int.b1 [x, y] s.1 s.2) (0, 0) = some (.inl ((x.length : Int), 1)) := by
    dsimp only
    unfold slices_Concat_int_int.b1
    have hx : ix [x, y] 0 = some x := rfl
    have w : W (0 + (x.length : Int)) = (x.length : Int) := by rw [W, W_eq (by omega) (by omega)]; omega
    rw [if_pos (by simp), hx, Option.bind_some, w, if_neg (by omega)]; rfl
  have a2 : (fun s : Int × Int => slices_Concat_int_int.b1 [x, y] s.1 s.2) ((x.length : Int), 1) = some (.inl (((x.length + y.length : Nat) : Int), 2)) := by
    dsimp only
    unfold slices_Concat_int_int.b1
    have hx : ix [x, y] 1 = some y := rfl
    have w : W ((x.length : Int) + (y.length : Int)) = ((x.length + y.length : Nat) : Int) := by rw [W, W_eq (by omega) (by omega)]; omega
    rw [if_pos (by simp), hx, Option.bind_some, w, if_neg (by omega)]; rfl
  have a3 : (fun s : Int × Int => slices_Concat_int_int.b1 [x, y] s.1 s.2) (((x.length + y.length : Nat) : Int), 2) = some (.inr ((x.length + y.length : Nat) : Int)) := by
    dsimp only
    unfold slices_Concat_int_int.b1
    rw [if_neg (by simp)]
  rw [loop_go a1, loop_go a2, loop_end a3, Option.bind_some]
  unfold slices_Concat_int_int.k0
  have g : slices_Grow_int_int [] ((x.length + y.length : Nat) : Int) = some [] := by
    unfold slices_Grow_int_int; rw [if_pos ⟨rfl, by omega, by omega⟩]
  have b1 : (fun s : List Int × Int => slices_Concat_int_int.b0 [x, y] s.1 s.2) ([], 0) = some (.inl (x, 1)) := by
    dsimp only
    unfold slices_Concat_int_int.b0
    have hx : ix [x, y] 0 = some x := rfl
    rw [if_pos (by simp), hx, Option.bind_some, app_small (by rw [List.length_nil]; omega) (by decide), Option.bind_some]; rfl
  have b2 : (fun s : List Int × Int => slices_Concat_int_int.b0 [x, y] s.1 s.2) (x, 1) = some (.inl (x ++ y, 2)) := by
    dsimp only
    unfold slices_Concat_int_int.b0
    have hx : ix [x, y] 1 = some y := rfl
    rw [if_pos (by simp), hx, Option.bind_some, app_small (by omega) (by decide), Option.bind_some]; rfl
  have b3 : (fun s : List Int × Int => slices_Concat_int_int.b0 [x, y] s.1 s.2) (x ++ y, 2) = some (.inr (x ++ y)) := by
    dsimp only
    unfold slices_Concat_int_int.b0
    rw [if_neg (by simp)]
  rw [g, Option.bind_some, loop_go b1, loop_go b2, loop_end b3, Option.bind_some]; rfl
theorem cut_from {l : List Int} {k : Nat} (h : k ≤ l.length) : cut l (k : Int) (l.length : Int) = some (l.drop k) := by
  unfold cut
  rw [if_pos (by omega), Int.toNat_natCast, List.take_of_length_le (by rw [List.length_drop]; omega)]
theorem cut_to {l : List Int} {k : Nat} (h : k ≤ l.length) : cut l 0 (k : Int) = some (l.take k) := by
  unfold cut
  rw [if_pos (by omega)]
  simp
theorem implTail_eq {w : TWord} (h : R8 w) {i : Nat} (hi : i ≤ 1000) : impl_WordTail w (i : Int) = some (tailW w i, true) := by
  obtain ⟨h1, h2, _⟩ := id h
  have hok := (ok_iff w).mpr h
  unfold impl_WordTail tailW
  rw [inRg, decide_eq_true (by omega), bnd_eq, Bool.not_true, Bool.not_false, whenO_t, isRight_eq, Option.bind_some, hok, Bool.not_true, Bool.or_self, if_neg (by simp)]
  by_cases c : i < w.stem.length
  · rw [if_pos (by omega), if_pos c, cut_from (by omega), Option.bind_some]
    unfold impl_copyWord
    dsimp only
    rw [clone_eq _ (by rw [List.length_drop]; omega), Option.bind_some, clone_eq _ (by omega), Option.bind_some, Option.bind_some]
  · have hm := Nat.mod_lt (i - w.stem.length) (show 0 < w.loop.length by omega)
    have hw : W ((i : Int) - (w.stem.length : Int)) = ((i - w.stem.length : Nat) : Int) := by rw [W, W_eq (by omega) (by omega)]; omega
    have ht : Int.tmod ((i - w.stem.length : Nat) : Int) (w.loop.length : Int) = (((i - w.stem.length) % w.loop.length : Nat) : Int) := rfl
    rw [if_neg (by omega), if_neg c, decide_eq_true (by omega), chk_t, Option.bind_some, hw, ht, cut_from (by omega), Option.bind_some, cut_to (by omega), Option.bind_some, concat_eq (by rw [List.length_drop, List.length_take]; omega), Option.bind_some]
theorem period_ok {l : List Int} (h : 1 ≤ l.length ∧ l.length ≤ 40) : ∃ d : Nat, impl_period l = some (d : Int) ∧ Per l d := by
  unfold impl_period
  obtain ⟨r, e, hr⟩ := loop_inv (body := fun s : Int => impl_period.b0 l s) (fun s => ∃ k : Nat, s = k ∧ 1 ≤ k ∧ k ≤ l.length) (fun s => l.length - s.toNat) (fun r => r = .inl () ∨ ∃ d : Nat, r = .inr (d : Int) ∧ Per l d) (by
    rintro s ⟨k, rfl, hk1, hk2⟩
    unfold impl_period.b0
    by_cases c : k < l.length
    · have ht : Int.tmod (l.length : Int) (k : Int) = ((l.length % k : Nat) : Int) := rfl
      rw [if_pos (by omega), decide_eq_true (by omega), chk_t, Option.bind_some, ht, bnd_eq, WN (by omega)]
      by_cases c1 : l.length % k = 0
      · have hw : W ((l.length : Int) - (k : Int)) = ((l.length - k : Nat) : Int) := by rw [W, W_eq (by omega) (by omega)]; omega
        rw [decide_eq_true (by omega), whenO_t, cut_from (by omega), Option.bind_some, hw, whenO_t, cut_to (by omega), Option.bind_some, whenO_t, equal_eq _ _ (by rw [List.length_drop]; omega), Option.bind_some, Bool.true_and]
        by_cases c2 : l.drop k = l.take (l.length - k)
        · left
          rw [if_pos (by simpa using c2)]
          refine ⟨_, rfl, .inr ⟨k, rfl, hk1, hk2, c1, fun j hj => ?_⟩⟩
          rw [← getD_drop', c2, getD_take' _ (by omega)]
        · right
          rw [if_neg (by simpa using c2)]
          exact ⟨_, rfl, ⟨k + 1, rfl, by omega, by omega⟩, by omega⟩
      · right
        rw [decide_eq_false (by omega), whenO_f, Option.bind_some, whenO_f, Option.bind_some, whenO_f, Option.bind_some, Bool.false_and, if_neg (by simp)]
        exact ⟨_, rfl, ⟨k + 1, rfl, by omega, by omega⟩, by omega⟩
    · left
      rw [if_neg (by omega)]
      exact ⟨_, rfl, .inl rfl⟩) (s := 1) ⟨1, rfl, by omega, by omega⟩
  rw [e, Option.bind_some]
  rcases hr with rfl | ⟨d, rfl, hd⟩
  · exact ⟨l.length, rfl, by omega, by omega, Nat.mod_self _, fun k hk => by omega⟩
  · exact ⟨d, rfl, hd⟩
theorem implCanon_ok {w : TWord} (h : R8 w) : ∃ w', impl_WordCanon w = some w' ∧ EQ w w' := by
  obtain ⟨h1, h2, _⟩ := id h
  have hok := (ok_iff w).mpr h
  unfold impl_WordCanon
  obtain ⟨d, e, hd⟩ := period_ok h2
  have hdl := hd.2.1
  have hl : (w.loop.take d).length = d := by rw [List.length_take]; omega
  rw [isRight_eq, Option.bind_some, hok, if_neg (by simp), clone_eq _ (by omega), Option.bind_some, e, Option.bind_some, cut_to hdl, Option.bind_some, clone_eq _ (by omega), Option.bind_some]
  obtain ⟨φ, hm, hφ⟩ := per_mo h.wok hd
  have hE : EQ w ⟨w.stem, w.loop.take d⟩ := (EQ.refl h).step (per_ok h hd) hm hφ
  obtain ⟨r, er, hr⟩ := loop_inv (body := fun s : List Int × List Int => impl_WordCanon.b0 (w.loop.take d) s.1 s.2) (fun s => EQ w ⟨s.1, s.2⟩ ∧ s.2.length = d) (fun s => s.1.length) (fun r => EQ w ⟨r.1, r.2⟩) (by
    rintro ⟨st, lp⟩ ⟨hs, hsl⟩
    dsimp only at hs hsl ⊢
    have hR := hs.1
    have hst : st.length ≤ 40 := hR.1
    have hd1 := hd.1
    unfold impl_WordCanon.b0
    rw [bnd_eq, hl]
    by_cases c : 0 < st.length
    · have w1 : W ((st.length : Int) - 1) = ((st.length - 1 : Nat) : Int) := by rw [W, W_eq (by omega) (by omega)]; omega
      have w2 : W ((d : Int) - 1) = ((d - 1 : Nat) : Int) := by rw [W, W_eq (by omega) (by omega)]; omega
      rw [decide_eq_true (by omega), w1, w2, whenO_t, ix_nat (by omega), Option.bind_some, whenO_t, ix_nat (by omega), Option.bind_some, Bool.true_and]
      by_cases c2 : st.getD (st.length - 1) default = lp.getD (d - 1) default
      · right
        have hdr : (d - 1 : Nat) ≤ lp.length := by omega
        rw [if_pos (by simpa using c2), cut_to (by omega), Option.bind_some, cut_from hdr, Option.bind_some, cut_to hdr, Option.bind_some, concat_eq (by rw [List.length_drop, List.length_take]; omega), Option.bind_some]
        obtain ⟨ψ, hm2, hψ⟩ := in_mo (w := ⟨st, lp⟩) hR.wok c (by dsimp only; rw [hsl]; exact c2)
        have hE2 := hs.step (in_ok hR) hm2 hψ
        unfold inW at hE2
        dsimp only at hE2
        rw [hsl] at hE2
        refine ⟨_, rfl, ⟨hE2, ?_⟩, ?_⟩
        · dsimp only
          rw [List.length_append, List.length_drop, List.length_take]; omega
        · dsimp only
          rw [List.length_take]; omega
      · left
        rw [if_neg (by simpa using c2)]
        exact ⟨_, rfl, hs⟩
    · left
      rw [decide_eq_false (by omega), whenO_f, Option.bind_some, whenO_f, Option.bind_some, Bool.false_and, if_neg (by simp)]
      exact ⟨_, rfl, hs⟩) (s := (w.stem, w.loop.take d)) ⟨hE, hl⟩
  rw [er, Option.bind_some]
  exact ⟨_, rfl, hr⟩
end Go.Proofs.Ytjjlkncefgfljaa
end

/- Sizes of trees put together. -/
section
namespace Go.Proofs.Ytjjlkncefgfljaa
open Go Go.RowKit E
set_option linter.unusedVariables false

theorem sizesFrom_app (p : TNode → Int) : ∀ (a b : List TNode) (ss s1 : List Int), sizesFrom p ss a = some s1 → sizesFrom p ss (a ++ b) = sizesFrom p s1 b
  | [], b, ss, s1, h => by unfold sizesFrom at h; cases h; rfl
  | n :: a, b, ss, s1, h => by
    unfold sizesFrom at h
    show sizesFrom p ss (n :: (a ++ b)) = _
    rw [sizesFrom]
    cases hs : sizeStep p ss n with
    | none => rw [hs] at h; cases h
    | some s => rw [hs] at h; exact sizesFrom_app p a b s s1 h
theorem getD_shift (s0 ss : List Int) (j : Nat) : (s0 ++ ss).getD (s0.length + j) 0 = ss.getD j 0 := by
  rw [List.getD_eq_getElem?_getD, List.getD_eq_getElem?_getD, List.getElem?_append_right (by omega)]
  congr 2; omega
theorem treeOk_sizes {p : TNode → Int} {e : List TNode} (h : treeOk p e = true) : ∃ s, sizesFrom p [] e = some s ∧ s.length = e.length ∧ s.getD (e.length - 1) 0 = e.length ∧ 1 ≤ e.length ∧ e.length ≤ 31 := by
  unfold treeOk at h
  rw [Bool.and_eq_true, decide_eq_true_eq] at h
  obtain ⟨h1, h2⟩ := h
  cases hs : sizesFrom p [] e with
  | none => rw [hs] at h2; cases h2
  | some s =>
    rw [hs] at h2
    have := (sizesFrom_sized Sized.nil hs).2
    exact ⟨s, rfl, by simpa using this, of_decide_eq_true h2, h1⟩
theorem treeOk_of {p : TNode → Int} {e : List TNode} {s : List Int} (h : sizesFrom p [] e = some s) (h1 : 1 ≤ e.length) (h2 : e.length ≤ 31) (h3 : s.getD (e.length - 1) 0 = e.length) : treeOk p e = true := by
  unfold treeOk
  rw [h]
  simp only [Bool.and_eq_true, decide_eq_true_eq]
  exact ⟨⟨h1, h2⟩, h3⟩
theorem getD_last (s : List Int) (x : Int) : (s ++ [x]).getD s.length 0 = x := by rw [getD_app]; simp
theorem ltP2' {k a b : Int} (h : k = 5 ∨ k = 6 ∨ k = 8 ∨ k = 9) : ltP ⟨k, a, b⟩ = 2 := by rw [ltP_eq, if_neg (by dsimp only; omega), if_neg (by dsimp only; omega), if_neg (by dsimp only; omega), if_pos h]
theorem ltP1' {a b : Int} : ltP ⟨4, a, b⟩ = 1 := by rw [ltP_eq, if_neg (by dsimp only; omega), if_neg (by dsimp only; omega), if_pos (by dsimp only; omega)]
end Go.Proofs.Ytjjlkncefgfljaa
end

/- What is drawn: a byte, a number below a bound. -/
section
namespace Go.Proofs.Ytjjlkncefgfljaa
open Go Go.RowKit E
set_option linter.unusedVariables false

/-- A cursor that is within its bytes. -/
def CurOk (c : Tl1Cur) : Prop := 0 ≤ c.i ∧ c.b.length ≤ 1048576
theorem and255 (x : Int) : 0 ≤ bAnd .i64 x 255 ∧ bAnd .i64 x 255 ≤ 255 := by
  unfold bAnd
  have h1 : (BitVec.ofInt 64 x &&& BitVec.ofInt 64 255).toNat ≤ 255 := by
    rw [BitVec.toNat_and]
    exact Nat.and_le_right
  have h2 : (BitVec.ofInt IntKind.i64.bits x &&& BitVec.ofInt IntKind.i64.bits 255).toNat ≤ 255 := h1
  have h3 := W_eq (a := ((BitVec.ofInt IntKind.i64.bits x &&& BitVec.ofInt IntKind.i64.bits 255).toNat : Int)) (by omega) (by omega)
  rw [h3]; omega
theorem byte_ok {c : Tl1Cur} (h : CurOk c) : ∃ x c', spec_l1Byte c = some (x, c') ∧ (0 ≤ x ∧ x ≤ 255) ∧ CurOk c' := by
  obtain ⟨h1, h2⟩ := h
  unfold spec_l1Byte
  by_cases k : c.i < (c.b.length : Int)
  · rw [if_pos k, ix_ok h1 k, Option.bind_some]
    exact ⟨_, _, rfl, and255 _, by show 0 ≤ W (c.i + 1); rw [W, W_eq (by omega) (by omega)]; omega, h2⟩
  · rw [if_neg k]
    exact ⟨_, _, rfl, and255 _, h1, h2⟩
theorem below_ok {c : Tl1Cur} (h : CurOk c) {n : Int} (hn : n ≤ 4294967296) : ∃ x c', spec_l1Below c n = some (x, c') ∧ 0 ≤ x ∧ (x < n ∨ x = 0) ∧ CurOk c' := by
  unfold spec_l1Below
  by_cases k : n ≤ 0
  · rw [if_pos k]; exact ⟨_, _, rfl, by omega, .inr rfl, h⟩
  · rw [if_neg k]
    by_cases k2 : n ≤ 256
    · rw [if_pos k2]
      obtain ⟨x, c', e, hx, hc⟩ := byte_ok h
      rw [e, Option.bind_some, decide_eq_true (by omega), chk_t, Option.bind_some]
      exact ⟨_, _, rfl, Int.tmod_nonneg _ hx.1, .inl (Int.tmod_lt_of_pos _ (by omega)), hc⟩
    · rw [if_neg k2]
      obtain ⟨x1, c1, e1, hx1, hc1⟩ := byte_ok h
      obtain ⟨x2, c2, e2, hx2, hc2⟩ := byte_ok hc1
      obtain ⟨x3, c3, e3, hx3, hc3⟩ := byte_ok hc2
      obtain ⟨x4, c4, e4, hx4, hc4⟩ := byte_ok hc3
      rw [e1, Option.bind_some, e2, Option.bind_some, e3, Option.bind_some, e4, Option.bind_some, decide_eq_true (by omega), chk_t, Option.bind_some]
      refine ⟨_, _, rfl, Int.tmod_nonneg _ ?_, .inl (Int.tmod_lt_of_pos _ (by omega)), hc4⟩
      dsimp only
      have w1 : W (x1 * 16777216) = x1 * 16777216 := W_eq (by omega) (by omega)
      have w2 : W (x2 * 65536) = x2 * 65536 := W_eq (by omega) (by omega)
      have w3 : W (x3 * 256) = x3 * 256 := W_eq (by omega) (by omega)
      rw [w1, w2, w3]
      have w4 : W (x1 * 16777216 + x2 * 65536) = x1 * 16777216 + x2 * 65536 := W_eq (by omega) (by omega)
      rw [w4]
      have w5 : W (x1 * 16777216 + x2 * 65536 + x3 * 256) = x1 * 16777216 + x2 * 65536 + x3 * 256 := W_eq (by omega) (by omega)
      rw [w5, W, W_eq (by omega) (by omega)]
      omega
theorem below_pos {c : Tl1Cur} (h : CurOk c) {n : Int} (h0 : 0 < n) (hn : n ≤ 4294967296) : ∃ x c', spec_l1Below c n = some (x, c') ∧ 0 ≤ x ∧ x < n ∧ CurOk c' := by
  obtain ⟨x, c', e, h1, h2, h3⟩ := below_ok h hn
  exact ⟨x, c', e, h1, by omega, h3⟩
theorem new_ok (bs : List Int) (h : bs.length ≤ 1048576) : ∃ c, spec_l1New bs = some c ∧ CurOk c := by
  unfold spec_l1New
  have key := loop_inv (body := fun s : Int × Int => spec_l1New.b0 bs s.1 s.2) (fun s => 0 ≤ s.2) (fun s => bs.length - s.2.toNat) (fun _ => True) (fun s hs => ?_) (s := (W (10277 + (bs.length : Int)), 0)) (Int.le_refl 0)
  · obtain ⟨r, e, _⟩ := key
    rw [e, Option.bind_some]
    exact ⟨_, rfl, Int.le_refl 0, h⟩
  · unfold spec_l1New.b0
    rw [bnd_eq]
    by_cases k : s.2 < (bs.length : Int) ∧ s.2 < 4000
    · right
      rw [if_pos (by simpa using k), ix_ok hs k.1, Option.bind_some]
      have w : W (s.2 + 1) = s.2 + 1 := W_eq (by omega) (by omega)
      exact ⟨_, rfl, by show 0 ≤ W (s.2 + 1); omega, by show bs.length - (W (s.2 + 1)).toNat < _; omega⟩
    · left
      rw [if_neg (by simpa using k)]
      exact ⟨_, rfl, trivial⟩
end Go.Proofs.Ytjjlkncefgfljaa
end

/- What is drawn: one of a few. -/
section
namespace Go.Proofs.Ytjjlkncefgfljaa
open Go Go.RowKit E
set_option linter.unusedVariables false

theorem pick_ok {c : Tl1Cur} (h : CurOk c) {xs : List Int} (h0 : 0 < xs.length) (hn : xs.length ≤ 1000) : ∃ x c', spec_l1PickInt c xs = some (x, c') ∧ x ∈ xs ∧ CurOk c' := by
  unfold spec_l1PickInt
  obtain ⟨x, c', e, h1, h2, h3⟩ := below_pos h (n := (xs.length : Int)) (by omega) (by omega)
  rw [e, Option.bind_some, ix_ok h1 h2, Option.bind_some]
  refine ⟨_, _, rfl, ?_, h3⟩
  have hx : x.toNat < xs.length := by omega
  rw [List.getD_eq_getElem?_getD, List.getElem?_eq_getElem hx]
  exact List.getElem_mem hx
end Go.Proofs.Ytjjlkncefgfljaa
end

/- Places of the nodes of time. -/
section
namespace Go.Proofs.Ytjjlkncefgfljaa
open Go Go.RowKit E
set_option linter.unusedVariables false

def tempL : Nat → List TNode → List Int
  | _, [] => []
  | k, n :: r => if n.kind ≥ 7 then (k : Int) :: tempL (k + 1) r else tempL (k + 1) r
theorem tempL_len : ∀ (r : List TNode) (k : Nat), (tempL k r).length ≤ r.length
  | [], _ => Nat.le_refl _
  | n :: r, k => by
    have := tempL_len r (k + 1)
    unfold tempL
    split
    · simp; omega
    · simp; omega
theorem temp_loop {body : List Int × Int → Option ((List Int × Int) ⊕ List Int)} (e : List TNode) (he : e.length ≤ 31) (hb : ∀ y x, body (y, x) = if x < (e.length : Int) then (ix e x).bind fun a => if a.kind ≥ 7 then (app 8 y [x]).bind fun z => some (.inl (z, W (x + 1))) else some (.inl (y, W (x + 1))) else some (.inr y)) : ∀ (r pre : List TNode) (y : List Int), e = pre ++ r → y.length ≤ pre.length → loop body (y, (pre.length : Int)) = some (y ++ tempL pre.length r)
  | [], pre, y, h, hy => loop_end (by rw [hb, if_neg (by rw [h]; simp)]; simp [tempL])
  | n :: r, pre, y, h, hy => by
    have hl : pre.length + (r.length + 1) = e.length := by rw [h]; simp
    have w4 : W ((pre.length : Int) + 1) = (((pre ++ [n]).length : Nat) : Int) := by rw [W, W_eq (by omega) (by omega)]; simp
    have hix : ix e (pre.length : Int) = some n := by rw [h]; exact ix_mid pre n r
    by_cases c : n.kind ≥ 7
    · rw [loop_go (s' := (y ++ [(pre.length : Int)], (((pre ++ [n]).length : Nat) : Int)))]
      · rw [temp_loop e he hb r (pre ++ [n]) _ (by rw [h]; simp) (by simp; omega)]
        simp [tempL, c]
      · rw [hb, if_pos (by omega), hix, Option.bind_some, if_pos c, app_small (by simp; omega) (by omega), Option.bind_some, w4]
    · rw [loop_go (s' := (y, (((pre ++ [n]).length : Nat) : Int)))]
      · rw [temp_loop e he hb r (pre ++ [n]) _ (by rw [h]; simp) (by simp; omega)]
        simp [tempL, c]
      · rw [hb, if_pos (by omega), hix, Option.bind_some, if_neg c, w4]
end Go.Proofs.Ytjjlkncefgfljaa
end

/- Drawn formulas: some nodes, not too many. -/
section
namespace Go.Proofs.Ytjjlkncefgfljaa
open Go Go.RowKit E
set_option linter.unusedVariables false

theorem temp_some {body : List Int × Int → Option ((List Int × Int) ⊕ List Int)} (e : List TNode) (he : e.length ≤ 1000000) (hb : ∀ y x, body (y, x) = if x < (e.length : Int) then (ix e x).bind fun a => if a.kind ≥ 7 then (app 8 y [x]).bind fun z => some (.inl (z, W (x + 1))) else some (.inl (y, W (x + 1))) else some (.inr y)) : ∃ r, loop body ([], 0) = some r := by
  have key := loop_inv (body := body) (fun s => 0 ≤ s.2 ∧ (s.1.length : Int) ≤ s.2) (fun s => e.length - s.2.toNat) (fun _ => True) (fun s hs => ?_) (s := ([], 0)) (by simp)
  · obtain ⟨r, h, _⟩ := key; exact ⟨r, h⟩
  · obtain ⟨y, x⟩ := s
    obtain ⟨h1, h2⟩ := hs
    dsimp only at h1 h2 ⊢
    rw [hb]
    by_cases k : x < (e.length : Int)
    · right
      have w : W (x + 1) = x + 1 := W_eq (by omega) (by omega)
      rw [if_pos k, ix_ok h1 k, Option.bind_some]
      split
      · rw [app_small (by simp; omega) (by omega), Option.bind_some, w]
        exact ⟨_, rfl, ⟨by dsimp only; omega, by simp; omega⟩, by dsimp only; omega⟩
      · rw [w]
        exact ⟨_, rfl, ⟨by dsimp only; omega, by dsimp only; omega⟩, by dsimp only; omega⟩
    · left; rw [if_neg k]; exact ⟨_, rfl, trivial⟩
theorem l8Temporal_some (e : List TNode) (he : e.length ≤ 1000000) : ∃ r, spec_l8Temporal e = some r := by
  unfold spec_l8Temporal
  obtain ⟨r, h⟩ := temp_some (body := fun s : List Int × Int => spec_l8Temporal.b0 e s.1 s.2) e he (fun y x => rfl)
  rw [h]; exact ⟨_, rfl⟩
theorem appN {l m : List TNode} (h : l.length + m.length ≤ 1000000000) : app 24 l m = some (l ++ m) := app_small h (by omega)
/-- A tree is drawn behind nodes. -/
theorem drawTree_ok : ∀ (d K : Nat) {c : Tl1Cur} {e : List TNode} {most : Int}, d < K → CurOk c → d ≤ 10 → e.length + 2 ^ (d + 1) ≤ 100000 → ∃ e' c', spec_l8DrawTree K c (d : Int) e most = some (e', c') ∧ CurOk c' ∧ e.length < e'.length ∧ e'.length < e.length + 2 ^ (d + 1) := by
  intro d
  induction d with
  | zero =>
    intro K c e most hK hc _ hl
    obtain ⟨K, rfl⟩ : ∃ k, K = k + 1 := ⟨K - 1, by omega⟩
    unfold spec_l8DrawTree spec_l8DrawTree.body
    obtain ⟨x, c1, e1, h1, h2, hc1⟩ := below_pos hc (n := 14) (by decide) (by decide)
    obtain ⟨x2, c2, e2, h3, h4, hc2⟩ := below_pos hc1 (n := 4) (by decide) (by decide)
    rw [e1, Option.bind_some, if_pos (by simp), e2, Option.bind_some]
    unfold spec_l8DrawTree.k0
    rw [bnd_eq, decide_eq_false (by dsimp only; omega), whenO_f, Option.bind_some, if_neg (by simp)]
    unfold spec_l8DrawTree.k1
    obtain ⟨x3, c3, e3, h5, h6, hc3⟩ := below_pos hc2 (n := 2) (by decide) (by decide)
    have hp : 2 ^ (0 + 1) = 2 := rfl
    by_cases k : x2 < 3
    · rw [if_pos k, e3, Option.bind_some, appN (by simp; omega), Option.bind_some]
      exact ⟨_, _, rfl, hc3, by simp, by simp⟩
    · rw [if_neg k, if_pos (by dsimp only; omega), e3, Option.bind_some, appN (by simp; omega), Option.bind_some]
      exact ⟨_, _, rfl, hc3, by simp, by simp⟩
  | succ d ih =>
    intro K c e most hK hc hd hl
    obtain ⟨K, rfl⟩ : ∃ k, K = k + 1 := ⟨K - 1, by omega⟩
    have hp : 2 ^ (d + 1 + 1) = 2 ^ (d + 1) + 2 ^ (d + 1) := by rw [Nat.pow_succ]; omega
    have hp2 : 2 ≤ 2 ^ (d + 1) := by rw [Nat.pow_succ]; have := Nat.two_pow_pos d; omega
    unfold spec_l8DrawTree spec_l8DrawTree.body
    obtain ⟨x, c1, e1, h1, h2, hc1⟩ := below_pos hc (n := 14) (by decide) (by decide)
    rw [e1, Option.bind_some, if_neg (by omega)]
    have wd : W (((d + 1 : Nat) : Int) - 1) = (d : Int) := by rw [W, W_eq (by omega) (by omega)]; omega
    have step : ∀ z : Int, 0 ≤ z → z < 14 → ∃ e' c', spec_l8DrawTree.k1 c1.b c1.i c1.h e (spec_l8DrawTree K) ((d + 1 : Nat) : Int) most z = some (e', c') ∧ CurOk c' ∧ e.length < e'.length ∧ e'.length < e.length + 2 ^ (d + 1 + 1) := by
      intro z hz1 hz2
      unfold spec_l8DrawTree.k1
      have hc1' : CurOk (Tl1Cur.mk c1.b c1.i c1.h) := hc1
      obtain ⟨x3, c3, e3, h5, h6, hc3⟩ := below_pos hc1' (n := 2) (by decide) (by decide)
      have two : ∀ (c4 : Tl1Cur) (m k : Int), CurOk c4 → ∃ e' c', spec_l8DrawTree.k2 (spec_l8DrawTree K) ((d + 1 : Nat) : Int) e c4.b c4.i c4.h m k = some (e', c') ∧ CurOk c' ∧ e.length < e'.length ∧ e'.length < e.length + 2 ^ (d + 1 + 1) := by
        intro c4 m k hc4
        unfold spec_l8DrawTree.k2
        have hc4' : CurOk (Tl1Cur.mk c4.b c4.i c4.h) := hc4
        obtain ⟨e5, c5, g1, g2, g3, g4⟩ := ih K (e := e) (most := m) (by omega) hc4' (by omega) (by omega)
        obtain ⟨e6, c6, i1, i2, i3, i4⟩ := ih K (e := e5) (most := m) (by omega) g2 (by omega) (by omega)
        rw [wd, g1, Option.bind_some, i1, Option.bind_some]
        unfold spec_l8Two
        rw [appN (by simp; omega), Option.bind_some, Option.bind_some]
        exact ⟨_, _, rfl, i2, by simp; omega, by simp; omega⟩
      by_cases k1 : z < 3
      · rw [if_pos k1, e3, Option.bind_some, appN (by simp; omega), Option.bind_some]
        exact ⟨_, _, rfl, hc3, by simp, by simp <;> omega⟩
      by_cases k2 : z = 3
      · rw [if_neg k1, if_pos k2, e3, Option.bind_some, appN (by simp; omega), Option.bind_some]
        exact ⟨_, _, rfl, hc3, by simp, by simp <;> omega⟩
      by_cases k3 : z = 4
      · obtain ⟨e5, c5, g1, g2, g3, g4⟩ := ih K (e := e) (most := most) (by omega) hc1' (by omega) (by omega)
        rw [if_neg k1, if_neg k2, if_pos k3, wd, g1, Option.bind_some, appN (by simp; omega), Option.bind_some]
        exact ⟨_, _, rfl, g2, by simp; omega, by simp; omega⟩
      by_cases k4 : z ≥ 10
      · obtain ⟨e5, c5, g1, g2, g3, g4⟩ := ih K (e := e) (most := W (most - 1)) (by omega) hc1' (by omega) (by omega)
        obtain ⟨x6, c6, g5, _, g7⟩ := pick_ok g2 (xs := [7, 10, 11]) (by decide) (by decide)
        rw [if_neg k1, if_neg k2, if_neg k3, if_pos k4, wd, g1, Option.bind_some, g5, Option.bind_some, appN (by simp; omega), Option.bind_some]
        exact ⟨_, _, rfl, g7, by simp; omega, by simp; omega⟩
      rw [if_neg k1, if_neg k2, if_neg k3, if_neg k4, e3, Option.bind_some]
      by_cases k5 : z ≥ 7
      · obtain ⟨x7, c7, e7, _, _, hc7⟩ := below_pos hc3 (n := 2) (by decide) (by decide)
        rw [if_pos k5, e7, Option.bind_some]
        exact two c7 _ _ hc7
      · rw [if_neg k5]
        exact two c3 _ _ hc3
    unfold spec_l8DrawTree.k0
    obtain ⟨ts, ht⟩ := l8Temporal_some e (by omega)
    rw [bnd_eq]
    have go : ∀ b : Bool, ∀ q : List Int, ∃ e' c', (if (b && decide (((q.length : Int)) ≥ most)) = true then spec_l8DrawTree.k1 c1.b c1.i c1.h e (spec_l8DrawTree K) ((d + 1 : Nat) : Int) most (W (4 + Int.tmod x 3)) else spec_l8DrawTree.k1 c1.b c1.i c1.h e (spec_l8DrawTree K) ((d + 1 : Nat) : Int) most x) = some (e', c') ∧ CurOk c' ∧ e.length < e'.length ∧ e'.length < e.length + 2 ^ (d + 1 + 1) := by
      intro b q
      split
      · have := Int.tmod_nonneg 3 h1
        have := Int.tmod_lt_of_pos x (b := 3) (by decide)
        have w : W (4 + Int.tmod x 3) = 4 + Int.tmod x 3 := W_eq (by omega) (by omega)
        rw [w]; exact step _ (by omega) (by omega)
      · exact step _ h1 h2
    cases decide (x ≥ 7) with
    | true => rw [whenO_t, ht, Option.bind_some]; exact go true ts
    | false => rw [whenO_f, Option.bind_some]; exact go false default
theorem drawRight_ok {K : Nat} (hK : 5 ≤ K) {c : Tl1Cur} (hc : CurOk c) (most : Int) : ∃ e' c', spec_l8DrawRight K c most = some (e', c') ∧ CurOk c' ∧ 0 < e'.length ∧ e'.length < 32 := by
  unfold spec_l8DrawRight
  obtain ⟨x, c1, e1, h1, h2, hc1⟩ := below_pos hc (n := 4) (by decide) (by decide)
  rw [e1, Option.bind_some]
  dsimp only
  have w : W (1 + x) = ((1 + x.toNat : Nat) : Int) := by rw [W, W_eq (by omega) (by omega)]; omega
  have hp : 2 ^ (1 + x.toNat + 1) ≤ 2 ^ 5 := Nat.pow_le_pow_right (by omega) (by omega)
  have h32 : 2 ^ 5 = 32 := rfl
  obtain ⟨e', c', g1, g2, g3, g4⟩ := drawTree_ok (1 + x.toNat) K (c := c1) (e := []) (most := most) (by omega) hc1 (by omega) (by simp; omega)
  have g3' : 0 < e'.length := by simpa using g3
  have g4' : e'.length < 2 ^ (1 + x.toNat + 1) := by simpa using g4
  rw [w, g1, Option.bind_some]
  exact ⟨_, _, rfl, g2, g3', by dsimp only; omega⟩
theorem drawAny_ok {K : Nat} (hK : 5 ≤ K) {c : Tl1Cur} (hc : CurOk c) : ∃ e' c', spec_l8DrawAny K c = some (e', c') ∧ CurOk c' ∧ e'.length ≤ 33 := by
  unfold spec_l8DrawAny
  obtain ⟨e, c1, e1, hc1, l1, l2⟩ := drawRight_ok hK hc 6
  obtain ⟨x, c2, e2, h1, h2, hc2⟩ := below_pos hc1 (n := (e.length : Int)) (by omega) (by omega)
  obtain ⟨y, c3, e3, h3, h4, hc3⟩ := below_pos hc2 (n := 25) (by decide) (by decide)
  rw [e1, Option.bind_some, e2, Option.bind_some, e3, Option.bind_some]
  have hck : ck x e.length = some x.toNat := by unfold ck; rw [if_pos ⟨h1, by omega⟩]
  unfold spec_l8DrawAny.k0
  dsimp only
  split
  · obtain ⟨z, c4, e4, _, _, hc4⟩ := below_pos hc3 (n := 13) (by decide) (by decide)
    rw [e4, Option.bind_some, hck, Option.bind_some]
    exact ⟨_, _, rfl, hc4, by simp; omega⟩
  split
  · rw [ix_ok h1 h2, Option.bind_some, hck, Option.bind_some]
    exact ⟨_, _, rfl, hc3, by simp; omega⟩
  split
  · obtain ⟨z, c4, e4, _, _, hc4⟩ := below_pos hc3 (n := (e.length : Int)) (by omega) (by omega)
    rw [e4, Option.bind_some, hck, Option.bind_some]
    exact ⟨_, _, rfl, hc4, by simp; omega⟩
  split
  · rw [appN (by simp; omega), Option.bind_some]
    exact ⟨_, _, rfl, hc3, by simp; omega⟩
  split
  · exact ⟨_, _, rfl, hc3, by simp⟩
  · exact ⟨_, _, rfl, hc3, by omega⟩
end Go.Proofs.Ytjjlkncefgfljaa
end

/- Drawn letters: not too many. -/
section
namespace Go.Proofs.Ytjjlkncefgfljaa
open Go Go.RowKit E
set_option linter.unusedVariables false

theorem app8 {l m : List Int} (h : l.length + m.length ≤ 1000000000) : app 8 l m = some (l ++ m) := app_small h (by omega)
theorem letters_ok {c : Tl1Cur} (hc : CurOk c) {most : Nat} (hm : most ≤ 100) {n : Int} (hn : n ≤ 4294967296) : ∃ l c', spec_l3DrawLetters c (most : Int) n = some (l, c') ∧ CurOk c' ∧ l.length ≤ most := by
  unfold spec_l3DrawLetters
  obtain ⟨x, c1, e1, h1, h2, hc1⟩ := below_pos hc (n := W ((most : Int) + 1)) (by rw [W, W_eq (by omega) (by omega)]; omega) (by rw [W, W_eq (by omega) (by omega)]; omega)
  rw [W, W_eq (by omega) (by omega)] at h2
  rw [e1, Option.bind_some]
  have key := loop_inv (body := fun s : List Int × Int × Int × List Int × Int => spec_l3DrawLetters.b0 (x, c1) n s.1 s.2.1 s.2.2.1 s.2.2.2.1 s.2.2.2.2) (fun s => CurOk ⟨s.1, s.2.1, s.2.2.1⟩ ∧ 0 ≤ s.2.2.2.2 ∧ s.2.2.2.2 ≤ x ∧ (s.2.2.2.1.length : Int) = s.2.2.2.2) (fun s => x.toNat - s.2.2.2.2.toNat) (fun r => CurOk ⟨r.2.1, r.2.2.1, r.2.2.2⟩ ∧ r.1.length ≤ most) (fun s hs => ?_) (s := (c1.b, c1.i, c1.h, [], 0)) ⟨hc1, Int.le_refl 0, h1, rfl⟩
  · obtain ⟨r, e, g1, g2⟩ := key
    have e' : loop (fun s : List Int × Int × Int × List Int × Int => spec_l3DrawLetters.b0 (x, c1) n s.1 s.2.1 s.2.2.1 s.2.2.2.1 s.2.2.2.2) ((x, c1).2.b, (x, c1).2.i, (x, c1).2.h, [], 0) = some r := e
    rw [e', Option.bind_some]
    exact ⟨_, _, rfl, g1, g2⟩
  · obtain ⟨b, i, h, y, k⟩ := s
    obtain ⟨i1, i2, i3, i4⟩ := hs
    dsimp only at i1 i2 i3 i4 ⊢
    unfold spec_l3DrawLetters.b0
    by_cases g : k < x
    · right
      obtain ⟨z, c2, e2, _, _, hc2⟩ := below_ok i1 hn
      have w : W (k + 1) = k + 1 := W_eq (by omega) (by omega)
      rw [if_pos (by exact g), e2, Option.bind_some, app8 (by simp; omega), Option.bind_some, w]
      exact ⟨_, rfl, ⟨hc2, by dsimp only; omega, by dsimp only; omega, by simp; omega⟩, by dsimp only; omega⟩
    · left
      rw [if_neg (by exact g)]
      exact ⟨_, rfl, i1, by dsimp only; omega⟩
end Go.Proofs.Ytjjlkncefgfljaa
end

/- Drawn words: some letters, not too many. -/
section
namespace Go.Proofs.Ytjjlkncefgfljaa
open Go Go.RowKit E
set_option linter.unusedVariables false

theorem once_ok {c : Tl1Cur} (hc : CurOk c) {n : Int} (hn : n ≤ 4294967296) : ∃ b c', spec_l1Once c n = some (b, c') ∧ CurOk c' := by
  unfold spec_l1Once
  obtain ⟨x, c', e, _, _, h⟩ := below_ok hc hn
  rw [e, Option.bind_some]; exact ⟨_, _, rfl, h⟩
theorem told_eq (w : TWord) : spec_l3Told w = some (if wordOk w 8 = true then (w, true) else (⟨[], []⟩, false)) := by
  unfold spec_l3Told
  rw [show (TWord.mk w.stem w.loop) = w from rfl, l3Right_eq, Option.bind_some]
  by_cases h : wordOk w 8 = true
  · rw [if_neg (by simp [h]), if_pos h]
  · rw [if_pos (by simp [h]), if_neg h]
theorem told_len (w : TWord) : ∃ w' b, spec_l3Told w = some (w', b) ∧ w'.stem.length ≤ w.stem.length ∧ w'.loop.length ≤ w.loop.length := by
  rw [told_eq]
  by_cases h : wordOk w 8 = true
  · rw [if_pos h]; exact ⟨_, _, rfl, Nat.le_refl _, Nat.le_refl _⟩
  · rw [if_neg h]; exact ⟨_, _, rfl, Nat.zero_le _, Nat.zero_le _⟩
theorem power_ok {w : TWord} (h1 : w.stem.length ≤ 1000) (h2 : w.loop.length ≤ 1000) : ∃ w' b, spec_WordPower w 2 = some (w', b) ∧ w'.stem.length ≤ w.stem.length ∧ w'.loop.length ≤ 2 * w.loop.length := by
  unfold spec_WordPower
  rw [l3Right_eq, Option.bind_some, bnd_eq]
  by_cases h : wordOk w 8 = true
  · rw [if_neg (by rw [h]; decide), app8 (by simp; omega), Option.bind_some, List.nil_append]
    have s1 : spec_WordPower.b0 2 w w.stem [] 0 = some (.inl (w.stem, w.loop, 1)) := by
      unfold spec_WordPower.b0
      rw [if_pos (by decide), app8 (by simp; omega)]; rfl
    have s2 : spec_WordPower.b0 2 w w.stem w.loop 1 = some (.inl (w.stem, w.loop ++ w.loop, 2)) := by
      unfold spec_WordPower.b0
      rw [if_pos (by decide), app8 (by omega)]; rfl
    have s3 : spec_WordPower.b0 2 w w.stem (w.loop ++ w.loop) 2 = some (.inr (w.stem, w.loop ++ w.loop)) := by
      unfold spec_WordPower.b0
      rw [if_neg (by decide)]
    have L : loop (fun s : List Int × List Int × Int => spec_WordPower.b0 2 w s.1 s.2.1 s.2.2) (w.stem, [], 0) = some (w.stem, w.loop ++ w.loop) := by
      rw [loop_go (body := fun s : List Int × List Int × Int => spec_WordPower.b0 2 w s.1 s.2.1 s.2.2) s1, loop_go (body := fun s : List Int × List Int × Int => spec_WordPower.b0 2 w s.1 s.2.1 s.2.2) s2, loop_end (body := fun s : List Int × List Int × Int => spec_WordPower.b0 2 w s.1 s.2.1 s.2.2) s3]
    rw [L, Option.bind_some]
    unfold spec_WordPower.k0
    obtain ⟨w', b, g1, g2, g3⟩ := told_len ⟨w.stem, w.loop ++ w.loop⟩
    rw [g1, Option.bind_some]
    exact ⟨_, _, rfl, g2, by simp at g3; show w'.loop.length ≤ _; omega⟩
  · rw [if_pos (by simp [h])]; exact ⟨_, _, rfl, Nat.zero_le _, Nat.zero_le _⟩
theorem turn_ok {w : TWord} (h1 : w.stem.length ≤ 1000) (h2 : w.loop.length ≤ 1000) : ∃ w' b, spec_WordTurn w = some (w', b) ∧ w'.stem.length ≤ w.stem.length + 1 ∧ w'.loop.length ≤ w.loop.length := by
  unfold spec_WordTurn
  rw [l3Right_eq, Option.bind_some]
  by_cases h : wordOk w 8 = true
  · have hw := (wordOk_t h).1
    have hl := hw.loop
    have hl1 := hw.one
    have hix : ix w.loop 0 = some (w.loop.getD 0 default) := ix_ok (by decide) (by omega)
    have hcut : cut w.loop 1 (w.loop.length : Int) = some (w.loop.drop 1) := by
      unfold cut
      rw [if_pos ⟨by decide, by omega, by omega⟩]
      congr 1
      refine List.take_of_length_le ?_
      simp <;> omega
    rw [if_neg (by simp [h]), hix, Option.bind_some, hcut, Option.bind_some, Option.bind_some, app8 (by simp <;> omega), Option.bind_some, List.nil_append, app8 (by simp; omega), Option.bind_some, app8 (by simp; omega), Option.bind_some, List.nil_append, app8 (by simp; omega), Option.bind_some]
    obtain ⟨w', b, g1, g2, g3⟩ := told_len ⟨w.stem ++ [w.loop.getD 0 default], w.loop.drop 1 ++ [w.loop.getD 0 default]⟩
    rw [g1, Option.bind_some]
    exact ⟨_, _, rfl, by simpa using g2, by simp at g3; show w'.loop.length ≤ _; omega⟩
  · rw [if_pos (by simp [h])]; exact ⟨_, _, rfl, Nat.zero_le _, Nat.zero_le _⟩
theorem wordRight_ok {c : Tl1Cur} (hc : CurOk c) {n : Int} (hn : n ≤ 4294967296) : ∃ w c', spec_l3DrawRight c n = some (w, c') ∧ CurOk c' ∧ w.stem.length ≤ 10 ∧ w.loop.length ≤ 10 := by
  unfold spec_l3DrawRight
  obtain ⟨l1, c1, e1, h1, g1⟩ := letters_ok hc (most := 4) (by decide) hn
  obtain ⟨l2, c2, e2, h2, g2⟩ := letters_ok h1 (most := 3) (by decide) hn
  obtain ⟨x, c3, e3, _, _, h3⟩ := below_ok h2 hn
  obtain ⟨b, c4, e4, h4⟩ := once_ok h3 (n := 6) (by decide)
  have e1' : spec_l3DrawLetters c 4 n = some (l1, c1) := e1
  have e2' : spec_l3DrawLetters c1 3 n = some (l2, c2) := e2
  rw [e1', Option.bind_some, e2', Option.bind_some, e3, Option.bind_some, app8 (by simp; omega), Option.bind_some, e4, Option.bind_some]
  have rest : ∀ w : TWord, w.stem.length ≤ 4 → w.loop.length ≤ 8 → ∃ w' c', spec_l3DrawRight.k0 c4.b c4.i c4.h w.stem w.loop = some (w', c') ∧ CurOk c' ∧ w'.stem.length ≤ 10 ∧ w'.loop.length ≤ 10 := by
    intro w k1 k2
    unfold spec_l3DrawRight.k0
    obtain ⟨b2, c5, e5, h5⟩ := once_ok (c := ⟨c4.b, c4.i, c4.h⟩) h4 (n := 6) (by decide)
    rw [e5, Option.bind_some]
    split
    · obtain ⟨w', b3, t1, t2, t3⟩ := turn_ok (w := w) (by omega) (by omega)
      have t1' : spec_WordTurn ⟨w.stem, w.loop⟩ = some (w', b3) := t1
      rw [t1', Option.bind_some]
      exact ⟨_, _, rfl, h5, by show w'.stem.length ≤ _; omega, by show w'.loop.length ≤ _; omega⟩
    · exact ⟨_, _, rfl, h5, by show w.stem.length ≤ _; omega, by show w.loop.length ≤ _; omega⟩
  dsimp only
  split
  · obtain ⟨w', b3, t1, t2, t3⟩ := power_ok (w := ⟨l1, l2 ++ [x]⟩) (by show l1.length ≤ _; omega) (by simp; omega)
    rw [t1, Option.bind_some]
    exact rest w' (by dsimp only at t2; omega) (by simp at t3; omega)
  · exact rest ⟨l1, l2 ++ [x]⟩ (by show l1.length ≤ _; omega) (by simp; omega)
theorem drawWord_ok {c : Tl1Cur} (hc : CurOk c) : ∃ w c', spec_l3DrawWord c = some (w, c') ∧ CurOk c' ∧ w.stem.length ≤ 50 ∧ w.loop.length ≤ 50 := by
  unfold spec_l3DrawWord
  obtain ⟨n, c1, e1, m1, h1⟩ := pick_ok hc (xs := [1, 2, 2, 3, 8]) (by decide) (by decide)
  have hn : n ≤ 4294967296 := by
    simp only [List.mem_cons, List.not_mem_nil, or_false] at m1; omega
  obtain ⟨w, c2, e2, h2, l1, l2⟩ := wordRight_ok h1 hn
  obtain ⟨x, c3, e3, _, _, h3⟩ := below_ok h2 (n := 25) (by decide)
  rw [e1, Option.bind_some, e2, Option.bind_some, e3, Option.bind_some]
  unfold spec_l3DrawWord.k0
  dsimp only
  split
  · exact ⟨_, _, rfl, h3, by show w.stem.length ≤ _; omega, by simp⟩
  split
  · obtain ⟨z, c4, e4, _, h4⟩ := pick_ok h3 (xs := [-1, 7, 8]) (by decide) (by decide)
    rw [e4, Option.bind_some, app8 (by simp; omega), Option.bind_some]
    exact ⟨_, _, rfl, h4, by simp; omega, by show w.loop.length ≤ _; omega⟩
  split
  · obtain ⟨z, c4, e4, z1, z2, h4⟩ := below_pos h3 (n := 2) (by decide) (by decide)
    have w1 : W (40 + z) = 40 + z := W_eq (by omega) (by omega)
    rw [e4, Option.bind_some]
    dsimp only
    rw [w1, mk_ok (by omega) (by omega), Option.bind_some]
    exact ⟨_, _, rfl, h4, by simp; omega, by show w.loop.length ≤ _; omega⟩
  split
  · obtain ⟨z, c4, e4, z1, z2, h4⟩ := below_pos h3 (n := 2) (by decide) (by decide)
    have w1 : W (40 + z) = 40 + z := W_eq (by omega) (by omega)
    rw [e4, Option.bind_some]
    dsimp only
    rw [w1, mk_ok (by omega) (by omega), Option.bind_some]
    exact ⟨_, _, rfl, h4, by show w.stem.length ≤ _; omega, by simp; omega⟩
  · exact ⟨_, _, rfl, h3, by show w.stem.length ≤ _; omega, by show w.loop.length ≤ _; omega⟩
end Go.Proofs.Ytjjlkncefgfljaa
end

/- What a drawn formula says of a drawn word from a number on it says of the word without what is ahead. -/
section
namespace Go.Proofs.Ytjjlkncefgfljaa
open Go Go.RowKit E
set_option linter.unusedVariables false

theorem app24L {l m : List TNode} (h : l.length + m.length ≤ 1000000000) : app 24 l m = some (l ++ m) := app_small h (by omega)
theorem not_tree {f : List TNode} (hf : treeOk ltP f = true) (hl : f.length < 31) : treeOk ltP (f ++ [TNode.mk 4 (W ((f.length : Int) - 1)) 0]) = true := by
  obtain ⟨s1, a1, a2, a3, a4, a5⟩ := treeOk_sizes hf
  have w1 : W ((f.length : Int) - 1) = (f.length : Int) - 1 := W_eq (by omega) (by omega)
  refine treeOk_of (s := s1 ++ [1 + (f.length : Int)]) ?_ (by simp) (by simp; omega) ?_
  · rw [sizesFrom_app ltP f _ [] s1 a1, sizesFrom]
    have step : sizeStep ltP s1 (TNode.mk 4 (W ((f.length : Int) - 1)) 0) = some (s1 ++ [1 + (f.length : Int)]) := by
      unfold sizeStep
      rw [w1, ltP1', if_neg (by decide), if_pos rfl]
      dsimp only
      rw [a2, a3, if_pos (by omega)]
    rw [step]; rfl
  · rw [List.length_append, List.length_singleton, Nat.add_sub_cancel, ← a2, getD_last]; omega
noncomputable def ltNot (f : List TNode) : List TNode × Bool := if treeOk ltP f = true ∧ f.length < 31 then (f ++ [TNode.mk 4 (W ((f.length : Int) - 1)) 0], true) else ([], false)
theorem implNot_eq (f : List TNode) : impl_LtlNot f = some (ltNot f) := by
  unfold impl_LtlNot ltNot
  rw [implLtlOk_eq, Option.bind_some]
  by_cases h : treeOk ltP f = true
  · have h2 := (treeOk_nodes h).2.1
    rw [if_neg (by simp [h]), app24L (by simp; omega), Option.bind_some, List.nil_append]
    unfold impl_reader_one
    dsimp only
    rw [app24L (by simp; omega), Option.bind_some, Option.bind_some]
    unfold impl_fitting
    by_cases k : f.length < 31
    · rw [if_neg (by simp; omega), if_pos ⟨h, k⟩]; rfl
    · rw [if_pos (by simp; omega), if_neg (fun x => k x.2)]; rfl
  · rw [if_pos (by simp [h]), if_neg (fun x => h x.1)]
theorem at_ok {bs : List Int} (h : bs.length ≤ 1048576) (w : ∀ q ∈ bs, (IntKind.u8.min ≤ q ∧ q ≤ IntKind.u8.max)) : ∃ v, laws_at bs 1 = some v ∧ 0 ≤ v ∧ v ≤ 1000 := by
  unfold laws_at
  by_cases k : (1 : Int) < bs.length
  · have hm := w _ (List.getElem_mem (show 1 < bs.length by omega))
    have h0 : IntKind.u8.min = 0 := by decide
    have h1 : IntKind.u8.max = 255 := by decide
    rw [h0, h1] at hm
    rw [if_pos k, show (1 : Int) = ((1 : Nat) : Int) from rfl, ix_nat (by omega), Option.bind_some]
    have e : bs.getD 1 default = bs[1]'(by omega) := by rw [List.getD_eq_getElem?_getD, List.getElem?_eq_getElem (by omega)]; rfl
    rw [e, W_eq (by omega) (by omega)]
    exact ⟨_, rfl, by omega, by omega⟩
  · rw [if_neg k]
    have w1 : W (1 * 7) = 7 := by decide
    have w2 : W (7 + (bs.length : Int)) = 7 + (bs.length : Int) := W_eq (by omega) (by omega)
    rw [w1, w2]
    exact ⟨_, rfl, Int.tmod_nonneg _ (by omega), by have := Int.tmod_lt_of_pos (7 + (bs.length : Int)) (show (0 : Int) < 256 by decide); omega⟩
theorem drawBoth_ok {bs : List Int} (h : bs.length ≤ 1048576) {K : Nat} (hK : 5 ≤ K) : ∃ f w, spec_l9DrawBoth K bs = some (f, w) := by
  unfold spec_l9DrawBoth
  obtain ⟨c0, e0, h0⟩ := new_ok bs h
  obtain ⟨f, c1, e1, h1, l1⟩ := drawAny_ok hK h0
  obtain ⟨w, c2, e2, _, l2, l3⟩ := drawWord_ok h1
  rw [e0, Option.bind_some, e1, Option.bind_some, e2, Option.bind_some]
  exact ⟨_, _, rfl⟩
theorem drawAt_ok {c : Tl1Cur} (hc : CurOk c) : ∃ x c', spec_l3DrawAt c = some (x, c') := by
  unfold spec_l3DrawAt
  obtain ⟨b, c1, e1, h1⟩ := once_ok hc (n := 9) (by decide)
  rw [e1, Option.bind_some]
  cases b with
  | true =>
    obtain ⟨x, c2, e2, _⟩ := pick_ok h1 (xs := [(-1), 1000, 1001, 1000000, 1000001, 9223372036854775807]) (by decide) (by decide)
    dsimp only
    rw [if_pos rfl, e2]; exact ⟨_, _, rfl⟩
  | false =>
    obtain ⟨x, c2, e2, _⟩ := below_ok h1 (n := 15) (by decide)
    dsimp only
    rw [if_neg (by simp), e2]; exact ⟨_, _, rfl⟩
theorem drawAll_ok {bs : List Int} (h : bs.length ≤ 1048576) {K : Nat} (hK : 5 ≤ K) : ∃ f w i, spec_DrawLtlAt K bs = some (f, w, i) := by
  unfold spec_DrawLtlAt
  obtain ⟨f, w, e⟩ := drawBoth_ok h hK
  obtain ⟨c0, e0, h0⟩ := new_ok bs h
  obtain ⟨x, c1, e1⟩ := drawAt_ok h0
  rw [e, Option.bind_some, e0, Option.bind_some, e1, Option.bind_some]
  exact ⟨_, _, _, rfl⟩
/-- The contrary says the contrary. -/
theorem at_not {f : List TNode} (hf : treeOk ltP f = true) (hl : f.length < 31) {w : TWord} (hw : wordOk w 8 = true) {i : Int} (hi : 0 ≤ i) : ltAt (f ++ [TNode.mk 4 (W ((f.length : Int) - 1)) 0]) w i = !(ltAt f w i) := by
  have hn := treeOk_nodes hf
  have h1 := hn.1
  have ht := not_tree hf hl
  have hn2 := treeOk_nodes ht
  have hwk := (wordOk_t hw).1
  have w1 : W ((f.length : Int) - 1) = ((f.length - 1 : Nat) : Int) := by rw [W, W_eq (by omega) (by omega)]; omega
  unfold ltAt
  rw [if_pos ⟨ht, hw, hi⟩, if_pos ⟨hf, hw, hi⟩]
  have hp := plcN_lt hwk i.toNat
  generalize plcN w i.toNat = p at hp
  rw [w1] at hn2 ⊢
  have hlen : (f ++ [TNode.mk 4 ((f.length - 1 : Nat) : Int) 0]).length - 1 = f.length := by simp
  rw [hlen, tab_step hwk hn2 (by simp) hp]
  have hg : (f ++ [TNode.mk 4 ((f.length - 1 : Nat) : Int) 0]).getD f.length default = TNode.mk 4 ((f.length - 1 : Nat) : Int) 0 := by
    rw [List.getD_eq_getElem?_getD, List.getElem?_append_right (Nat.le_refl _), Nat.sub_self]; rfl
  rw [hg]
  have ha := tab_ahead (w := w) (e := f ++ [TNode.mk 4 ((f.length - 1 : Nat) : Int) 0]) (i := f.length) (j := f.length - 1) (by simp) (by omega)
  rw [List.take_left] at ha
  have ha : (tabN w f).getD (f.length - 1) default = _ := ha
  rw [ha]
  show (!((colAt _ p).getD ((f.length - 1 : Nat) : Int).toNat default)) = _
  rw [col_get, Int.toNat_natCast]
theorem at_eq {f : List TNode} (hf : treeOk ltP f = true) {w w' : TWord} (hw : wordOk w 8 = true) (hw' : wordOk w' 8 = true) {i j : Int} (hi : 0 ≤ i) (hj : 0 ≤ j) (h : ∀ k, k < f.length → ((tabN w f).getD k default).getD (plcN w i.toNat) default = ((tabN w' f).getD k default).getD (plcN w' j.toNat) default) : ltAt f w i = ltAt f w' j := by
  have h1 := (treeOk_nodes hf).1
  unfold ltAt
  rw [if_pos ⟨hf, hw, hi⟩, if_pos ⟨hf, hw', hj⟩]
  exact h _ (by omega)
theorem takes_eq (f : List TNode) (w : TWord) : impl_LtlTakes f w = some (ltAt f w 0) := by
  unfold impl_LtlTakes
  rw [implAt_eq f w 0 (by unfold inI; omega), Option.bind_some]
theorem pureLater (bs : List Int) (w : bs.length ≤ 9223372036854775807 ∧ ∀ q ∈ bs, (IntKind.u8.min ≤ q ∧ q ≤ IntKind.u8.max)) : laws_FnLater 40 bs = some true := by
  unfold laws_FnLater
  by_cases hb : laws_big bs = true
  · rw [if_pos hb]
  have h : bs.length ≤ 1048576 := by unfold laws_big at hb; simp at hb; omega
  obtain ⟨f, v, x, e⟩ := drawAll_ok h (K := 40) (by decide)
  obtain ⟨y, ey, y0, y1⟩ := at_ok h w.2
  rw [if_neg hb, e, Option.bind_some, ey, Option.bind_some]
  dsimp only
  have t0 := Int.tmod_nonneg (60 : Int) y0
  have t1 := Int.tmod_lt_of_pos y (show (0 : Int) < 60 by decide)
  generalize Int.tmod y 60 = i at t0 t1
  obtain ⟨i, rfl⟩ : ∃ n : Nat, i = n := ⟨i.toNat, by omega⟩
  have wi : inI (i : Int) := by unfold inI; omega
  rw [implAt_eq f v _ wi, Option.bind_some, specAt_eq f v _ wi, Option.bind_some, if_neg (by simp), specLtlOk_eq, Option.bind_some, bnd_eq, specWordOk_eq]
  by_cases hc : treeOk ltP f = true ∧ wordOk v 8 = true
  · obtain ⟨hf, hw⟩ := hc
    have hR := (ok_iff v).mp hw
    have hn := treeOk_nodes hf
    have hwk := hR.wok
    have hT := tail_ok hR i
    obtain ⟨φ, hm, hφ⟩ := tail_mo hwk i
    have et : ltAt f (tailW v i) 0 = ltAt f v (i : Int) := at_eq hf ((ok_iff _).mpr hT) hw (by omega) (by omega) fun k hk => by
      rw [show (0 : Int).toNat = 0 from rfl, plc0, Int.toNat_natCast, ← hφ]
      exact hm.tab hwk hT.wok hn k hk 0 (by have := hT.2.1.1; unfold plN; omega)
    obtain ⟨v', ev, hE⟩ := implCanon_ok hR
    have ec : ltAt f v' 0 = ltAt f v 0 := at_eq hf ((ok_iff _).mpr hE.1) hw (by omega) (by omega) fun k hk => by
      rw [show (0 : Int).toNat = 0 from rfl, plc0, plc0]
      exact hE.2 f hn k hk
    rw [hf, hw, Bool.not_true, Bool.not_false, whenO_t, Option.bind_some, Bool.not_true, Bool.or_self, if_neg (by simp), implTail_eq hR (by omega), Option.bind_some]
    dsimp only
    rw [bnd_eq, Bool.not_true, Bool.not_false, whenO_t, takes_eq, Option.bind_some, et, if_neg (by simp), implNot_eq, Option.bind_some]
    simp only [bnd_eq]
    have last : ∀ c : Bool, c = true → (((whenO c (impl_WordCanon v)).bind fun a76 => (whenO c (impl_LtlTakes f a76)).bind fun a77 => (whenO c (impl_LtlTakes f v)).bind fun a80 => some (c && (a77 == a80))) = some true) := by
      rintro c rfl
      rw [whenO_t, ev, Option.bind_some, whenO_t, takes_eq, Option.bind_some, whenO_t, takes_eq, Option.bind_some, ec]
      simp
    unfold ltNot
    by_cases hl : f.length < 31
    · rw [if_pos ⟨hf, hl⟩]
      dsimp only
      rw [Bool.not_true, Bool.not_false, whenO_t, implAt_eq _ _ _ wi, Option.bind_some, at_not hf hl hw (by omega)]
      exact last _ (by cases ltAt f v (i : Int) <;> rfl)
    · rw [if_neg (fun k => hl k.2)]
      dsimp only
      rw [Bool.not_false, Bool.not_true, whenO_f, Option.bind_some]
      exact last _ rfl
  · have hno : ltAt f v (i : Int) = false := by unfold ltAt; rw [if_neg (fun k => hc ⟨k.1, k.2.1⟩)]
    rw [hno]
    by_cases hf : treeOk ltP f = true
    · have hw : wordOk v 8 = false := Bool.eq_false_iff.mpr fun k => hc ⟨hf, k⟩
      rw [hf, hw]; rfl
    · rw [Bool.eq_false_iff.mpr hf]; rfl
end Go.Proofs.Ytjjlkncefgfljaa
end
