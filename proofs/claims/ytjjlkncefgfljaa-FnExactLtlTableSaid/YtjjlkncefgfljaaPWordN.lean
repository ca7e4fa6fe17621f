/- Words: which are right, their letters, the next place. -/
import Derived.Test.YtjjlkncefgfljaaDLtlTable
import Derived.Test.YtjjlkncefgfljaaPLetters
namespace Go.Proofs.Ytjjlkncefgfljaa
open Go Go.RowKit E
set_option linter.unusedVariables false

def wordOk (w : TWord) (n : Int) : Bool := decide (1 ≤ n ∧ n ≤ 8) && decide (w.stem.length ≤ 40) && decide (1 ≤ w.loop.length ∧ w.loop.length ≤ 40) && lettersOk w.stem n && lettersOk w.loop n
theorem specWordOk_eq (w : TWord) (n : Int) : spec_WordOk w n = some (wordOk w n) := by
  unfold spec_WordOk wordOk
  rw [bnd_eq, bnd_eq, l1Rg, l1Rg]
  by_cases h1 : 1 ≤ n ∧ n ≤ 8
  · by_cases h2 : w.stem.length ≤ 40
    · by_cases h3 : 1 ≤ w.loop.length ∧ w.loop.length ≤ 40
      · rw [decide_eq_true h1, decide_eq_true h2, decide_eq_true h3, decide_eq_false (by omega : ¬ (w.stem.length : Int) > 40), decide_eq_true (by omega : 1 ≤ (w.loop.length : Int) ∧ (w.loop.length : Int) ≤ 40), if_neg (by simp), specLetters_eq _ _ (by omega), Option.bind_some]
        cases lettersOk w.stem n
        · rfl
        · rw [whenO_t, specLetters_eq _ _ (by omega)]; simp
      · rw [decide_eq_false (by omega : ¬ (1 ≤ (w.loop.length : Int) ∧ (w.loop.length : Int) ≤ 40)), decide_eq_false h3, if_pos (by simp)]; simp
    · rw [decide_eq_true (by omega : (w.stem.length : Int) > 40), decide_eq_false h2, if_pos (by simp)]; simp
  · rw [decide_eq_false h1, if_pos (by simp)]; simp
theorem implWordOk_eq (w : TWord) (n : Int) : impl_WordOk w n = some (wordOk w n) := by
  unfold impl_WordOk wordOk impl_isLetters
  rw [bnd_eq, bnd_eq, inRg, inRg]
  by_cases h1 : 1 ≤ n ∧ n ≤ 8
  · by_cases h2 : w.stem.length ≤ 40
    · by_cases h3 : 1 ≤ w.loop.length ∧ w.loop.length ≤ 40
      · rw [decide_eq_true h1, decide_eq_true h2, decide_eq_true h3, decide_eq_false (by omega : ¬ (w.stem.length : Int) > 40), decide_eq_true (by omega : 1 ≤ (w.loop.length : Int) ∧ (w.loop.length : Int) ≤ 40), if_neg (by simp), implLetters_eq _ _ (by omega), Option.bind_some]
        cases lettersOk w.stem n
        · rfl
        · rw [whenO_t, implLetters_eq _ _ (by omega)]; simp
      · rw [decide_eq_false (by omega : ¬ (1 ≤ (w.loop.length : Int) ∧ (w.loop.length : Int) ≤ 40)), decide_eq_false h3, if_pos (by simp)]; simp
    · rw [decide_eq_true (by omega : (w.stem.length : Int) > 40), decide_eq_false h2, if_pos (by simp)]; simp
  · rw [decide_eq_false h1, if_pos (by simp)]; simp
theorem l3Right_eq (w : TWord) : spec_l3Right w = some (wordOk w 8) := by unfold spec_l3Right; rw [specWordOk_eq]; rfl
theorem isRight_eq (w : TWord) : impl_isRight w = some (wordOk w 8) := by unfold impl_isRight; rw [implWordOk_eq]; rfl
/-- What a right word is. -/
structure WOk (w : TWord) : Prop where
  stem : w.stem.length ≤ 40
  one : 1 ≤ w.loop.length
  loop : w.loop.length ≤ 40
  ls : ∀ k, k < w.stem.length → 0 ≤ w.stem.getD k default ∧ w.stem.getD k default ≤ 7
  ll : ∀ k, k < w.loop.length → 0 ≤ w.loop.getD k default ∧ w.loop.getD k default ≤ 7
theorem lettersOk_t {l : List Int} {n : Int} (hn : 1 ≤ n ∧ n ≤ 8) (h : lettersOk l n = true) : ∀ k, k < l.length → 0 ≤ l.getD k default ∧ l.getD k default ≤ n - 1 := by
  intro k hk
  have := List.all_eq_true.mp h k (List.mem_range.mpr hk)
  rw [decide_eq_true_eq, W, W_eq (by omega) (by omega)] at this
  exact this
theorem wordOk_t {w : TWord} {n : Int} (h : wordOk w n = true) : WOk w ∧ (1 ≤ n ∧ n ≤ 8) ∧ lettersOk w.stem n = true ∧ lettersOk w.loop n = true := by
  unfold wordOk at h
  simp only [Bool.and_eq_true, decide_eq_true_eq] at h
  obtain ⟨⟨⟨⟨h1, h2⟩, h3⟩, h4⟩, h5⟩ := h
  exact ⟨⟨h2, h3.1, h3.2, fun k hk => by have := lettersOk_t h1 h4 k hk; omega, fun k hk => by have := lettersOk_t h1 h5 k hk; omega⟩, h1, h4, h5⟩
/-- How many places; the letter at a place; the place behind it. -/
def plN (w : TWord) : Nat := w.stem.length + w.loop.length
def letN (w : TWord) (p : Nat) : Nat := (if p < w.stem.length then w.stem.getD p default else w.loop.getD (p - w.stem.length) default).toNat
def nxN (w : TWord) (p : Nat) : Nat := if p + 1 = plN w then w.stem.length else p + 1
theorem nxN_lt {w : TWord} (h : WOk w) {p : Nat} (hp : p < plN w) : nxN w p < plN w := by
  have := h.one
  unfold nxN plN at *
  split <;> omega
theorem letN_le {w : TWord} (h : WOk w) {p : Nat} (hp : p < plN w) : letN w p ≤ 7 := by
  unfold letN
  split
  · rename_i k; have := h.ls p k; omega
  · rename_i k; have := h.ll (p - w.stem.length) (by unfold plN at hp; omega); omega
theorem places_eq {w : TWord} (h : WOk w) : impl_Word_places w = (plN w : Int) := by
  have := h.stem; have := h.loop
  unfold impl_Word_places plN
  rw [W, W_eq (by omega) (by omega)]; omega
theorem l6Places_eq {w : TWord} (h : WOk w) : spec_l6Places w = (plN w : Int) := places_eq h
theorem next_eq {w : TWord} (h : WOk w) {p : Nat} (hp : p < plN w) : impl_Word_next w (p : Int) = (nxN w p : Int) := by
  have h1 := h.stem; have h2 := h.loop
  unfold impl_Word_next nxN
  unfold plN at hp
  rw [places_eq h, W, W_eq (by omega) (by omega)]
  unfold plN
  split <;> split <;> omega
theorem l6After_eq {w : TWord} (h : WOk w) {p : Nat} (hp : p < plN w) : spec_l6After w (p : Int) = (nxN w p : Int) := next_eq h hp
theorem letter_eq {w : TWord} (h : WOk w) {p : Nat} (hp : p < plN w) : impl_Word_letter w (p : Int) = some (letN w p : Int) := by
  have h1 := h.stem; have h2 := h.loop
  unfold impl_Word_letter letN
  unfold plN at hp
  split
  · rename_i k
    have k' : p < w.stem.length := by omega
    have := h.ls p k'
    rw [ix_nat k', Option.bind_some, if_pos k', Int.toNat_of_nonneg this.1]
  · rename_i k
    have := h.ll (p - w.stem.length) (by omega)
    rw [W, W_eq (by omega) (by omega), show (p : Int) - (w.stem.length : Int) = ((p - w.stem.length : Nat) : Int) by omega, ix_nat (by omega), Option.bind_some, if_neg (by omega), Int.toNat_of_nonneg this.1]
theorem l3At_eq {w : TWord} (h : WOk w) {p : Nat} (hp : p < plN w) : spec_l3At w (p : Int) = some (letN w p : Int) := by
  have h1 := h.stem; have h2 := h.loop; have h3 := h.one
  unfold spec_l3At letN
  unfold plN at hp
  split
  · rename_i k
    have k' : p < w.stem.length := by omega
    have := h.ls p k'
    rw [ix_nat k', Option.bind_some, if_pos k', Int.toNat_of_nonneg this.1]
  · rename_i k
    have := h.ll (p - w.stem.length) (by omega)
    rw [decide_eq_true (by omega), chk_t, Option.bind_some, W, W_eq (by omega) (by omega), show (p : Int) - (w.stem.length : Int) = ((p - w.stem.length : Nat) : Int) by omega, ← Int.ofNat_tmod, Nat.mod_eq_of_lt (by omega), ix_nat (by omega), Option.bind_some, if_neg (by omega), Int.toNat_of_nonneg this.1]
end Go.Proofs.Ytjjlkncefgfljaa
