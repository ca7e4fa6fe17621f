/- Loops over lists, told by what their states stand for. -/
import Derived.Test.YthdclobnmicdaaaQ1
namespace Go.Proofs.Ythdclobnmicdaaa
open Go Go.RowKit E
set_option linter.unusedVariables false

theorem fold_loopR {α σ τ ρ : Type} [Inhabited α] (r : τ → σ) (o : τ → ρ) (xs : List α) (f : τ → α → τ) (Inv : Nat → τ → Prop) {body : σ × Int → Option ((σ × Int) ⊕ ρ)} (go : ∀ (k : Nat) (st : τ), k < xs.length → Inv k st → body (r st, (k : Int)) = some (.inl (r (f st (xs.getD k default)), ((k + 1 : Nat) : Int))) ∧ Inv (k + 1) (f st (xs.getD k default)))
    (fin : ∀ st, Inv xs.length st → body (r st, (xs.length : Int)) = some (.inr (o st))) (st : τ) (h0 : Inv 0 st) : loop body (r st, 0) = some (o (xs.foldl f st)) ∧ Inv xs.length (xs.foldl f st) := by
  have key : ∀ post pre, xs = pre ++ post → ∀ st, Inv pre.length st → loop body (r st, (pre.length : Int)) = some (o (post.foldl f st)) ∧ Inv xs.length (post.foldl f st) := by
    intro post
    induction post with
    | nil => intro pre h st hi; simp at h; subst h; exact ⟨loop_end (fin st hi), hi⟩
    | cons a post ih =>
      intro pre h st hi
      have hk : pre.length < xs.length := by rw [h]; simp
      have ha : xs.getD pre.length default = a := by rw [h]; simp
      obtain ⟨g1, g2⟩ := go pre.length st hk hi
      rw [ha] at g1 g2
      have e : (((pre.length + 1 : Nat) : Int)) = ((pre ++ [a]).length : Int) := by simp
      rw [loop_go g1, e, List.foldl_cons]
      exact ih (pre ++ [a]) (by rw [h]; simp) _ (by simpa using g2)
  exact key xs [] rfl st h0
/-- A loop over the numbers below one. -/
theorem range_loopR {σ τ ρ : Type} (r : τ → σ) (o : τ → ρ) (n : Nat) (f : τ → Nat → τ) (Inv : Nat → τ → Prop) {body : σ × Int → Option ((σ × Int) ⊕ ρ)} (go : ∀ (k : Nat) (st : τ), k < n → Inv k st → body (r st, (k : Int)) = some (.inl (r (f st k), ((k + 1 : Nat) : Int))) ∧ Inv (k + 1) (f st k))
    (fin : ∀ st, Inv n st → body (r st, (n : Int)) = some (.inr (o st))) (st : τ) (h0 : Inv 0 st) : loop body (r st, 0) = some (o ((List.range n).foldl f st)) ∧ Inv n ((List.range n).foldl f st) := by
  have h := fold_loopR r o (List.range n) f Inv (body := body) (fun k st hk hi => by
    have hk' : k < n := by simpa using hk
    have e : (List.range n).getD k default = k := by simp [List.getD_eq_getElem?_getD, hk']
    rw [e]; exact go k st hk' hi) (fun st hi => by rw [List.length_range] at hi ⊢; exact fin st hi) st h0
  rw [List.length_range] at h
  exact h
/-- Members put into a set, where asked. -/
def setOf (c : Nat → Bool) (n : Nat) : Nat := (List.range n).foldl (fun s k => if c k = true then s ||| 2 ^ k else s) 0
theorem setOf_bit (c : Nat → Bool) (n : Nat) (i : Nat) : (setOf c n).testBit i = (decide (i < n) && c i) := by
  unfold setOf
  induction n with
  | zero => simp
  | succ n ih =>
    rw [List.range_succ, List.foldl_append, List.foldl_cons, List.foldl_nil]
    by_cases h : c n = true
    · rw [if_pos h, Nat.testBit_or, ih, Nat.testBit_two_pow]
      by_cases e : n = i
      · subst e; simp [h]
      · have : decide (i < n + 1) = decide (i < n) := by rw [decide_eq_decide]; omega
        simp [e, this]
    · rw [if_neg h, ih]
      by_cases e : i = n
      · subst e; simp [h]
      · have : decide (i < n + 1) = decide (i < n) := by rw [decide_eq_decide]; omega
        rw [this]
theorem setOf_lt (c : Nat → Bool) (n : Nat) : setOf c n < 2 ^ n := by
  refine Nat.lt_pow_two_of_testBit _ fun i hi => ?_
  rw [setOf_bit, decide_eq_false (by omega), Bool.false_and]
end Go.Proofs.Ythdclobnmicdaaa
