/- Plain lemmas on the words of printed functions: rows copied, held against each other; loops by induction. -/
import Derived.Test.YthdoebgikbfndaaF2
namespace Go.Proofs.Ythdoebgikbfndaa.E
open Go Go.RowKit
set_option linter.unusedVariables false

theorem W_nat {k : Nat} (h : k < 9223372036854775807) : IntKind.i64.wrap ((k : Int) + 1) = ((k + 1 : Nat) : Int) := by rw [W_eq (by omega) (by omega)]; omega
theorem bnd_eq {α β : Type} (x : α) (f : α → β) : bnd x f = f x := rfl
theorem whenO_t {α : Type} [Inhabited α] (x : Option α) : whenO true x = x := rfl
theorem whenO_f {α : Type} [Inhabited α] (x : Option α) : whenO false x = some default := rfl
theorem chk_t : chk true = some () := rfl
theorem inR {x a b : Int} : (decide (x ≥ a) && decide (x ≤ b)) = decide (a ≤ x ∧ x ≤ b) := by
  by_cases h : a ≤ x <;> by_cases k : x ≤ b <;> simp [h, k]

/-- A loop over a row from its k-th element on. -/
theorem loop_list {σ ρ α : Type} {body : σ → Option (σ ⊕ ρ)} (xs : List α) (st : List α → σ) (r : ρ) (go : ∀ pre a post, xs = pre ++ a :: post → body (st pre) = some (.inl (st (pre ++ [a])))) (fin : body (st xs) = some (.inr r)) : loop body (st []) = some r := by
  have key : ∀ post pre, xs = pre ++ post → loop body (st pre) = some r := by
    intro post
    induction post with
    | nil => intro pre h; rw [List.append_nil] at h; subst h; exact loop_end fin
    | cons a post ih => intro pre h; rw [loop_go (go pre a post h)]; exact ih (pre ++ [a]) (by rw [h]; simp)
  exact key xs [] rfl
theorem loop_up {σ ρ : Type} {body : σ → Option (σ ⊕ ρ)} (n : Nat) (st : Nat → σ) (r : ρ) (go : ∀ k, k < n → body (st k) = some (.inl (st (k + 1)))) (fin : body (st n) = some (.inr r)) : ∀ k, k ≤ n → loop body (st k) = some r := by
  have key : ∀ d k, k + d = n → loop body (st k) = some r := by
    intro d
    induction d with
    | zero => intro k h; obtain rfl : k = n := by omega
              exact loop_end fin
    | succ d ih => intro k h; rw [loop_go (go k (by omega))]; exact ih (k + 1) (by omega)
  exact fun k hk => key (n - k) k (by omega)

theorem ix_mid {α : Type} [Inhabited α] (pre : List α) (a : α) (post : List α) : ix (pre ++ a :: post) (pre.length : Int) = some a := by
  rw [ix_nat (by simp)]; simp
theorem ck_mid {α : Type} (pre : List α) (a : α) (post : List α) : ck (pre.length : Int) (pre ++ a :: post).length = some pre.length := ck_nat (by simp)
theorem set_mid {α : Type} (pre : List α) (a b : α) (post : List α) : (pre ++ a :: post).set pre.length b = pre ++ b :: post := by simp

/-- A row copied element by element. -/
theorem copy_loop {α β : Type} [Inhabited α] (f : α → Option β) (g : α → β) (hf : ∀ a, f a = some (g a)) (z : β) (xs : List α) (hl : xs.length ≤ 4611686018427387904) :
    loop (fun s : List β × Int => if s.2 < (xs.length : Int) then (ix xs s.2).bind fun a => (f a).bind fun b => (ck s.2 s.1.length).bind fun m => some (.inl (s.1.set m b, W (s.2 + 1))) else some (.inr s.1)) (List.replicate xs.length z, 0) = some (xs.map g) := by
  have := loop_up (body := fun s : List β × Int => if s.2 < (xs.length : Int) then (ix xs s.2).bind fun a => (f a).bind fun b => (ck s.2 s.1.length).bind fun m => some (.inl (s.1.set m b, W (s.2 + 1))) else some (.inr s.1)) xs.length (fun k => ((xs.take k).map g ++ List.replicate (xs.length - k) z, (k : Int))) (xs.map g) (fun k hk => ?_) ?_ 0 (Nat.zero_le _)
  · simpa using this
  · dsimp only
    rw [if_pos (by omega), ix_nat hk, Option.bind_some, hf, Option.bind_some, ck_nat (by simp; omega), Option.bind_some, W, W_nat (by omega)]
    have hg : xs.getD k default = xs[k] := by simp [hk]
    have hset : ((xs.take k).map g ++ List.replicate (xs.length - k) z).set k (g (xs.getD k default)) = (xs.take (k + 1)).map g ++ List.replicate (xs.length - (k + 1)) z := by
      rw [List.set_append_right _ _ (by simp; omega), show xs.length - k = (xs.length - (k + 1)) + 1 by omega, List.replicate_succ, List.take_succ_eq_append_getElem hk, hg]
      have : k - ((xs.take k).map g).length = 0 := by simp; omega
      rw [this]; simp only [List.set_cons_zero, List.map_append, List.map_cons, List.map_nil, List.append_assoc, List.singleton_append]
    rw [hset]
  · dsimp only
    rw [if_neg (by omega)]; simp

/-- Two rows held against each other. -/
theorem eq_loop {α : Type} [Inhabited α] [DecidableEq α] (f : α → α → Option Bool) (hf : ∀ a b, f a b = some (decide (a = b))) (xs ys : List α) (hl : xs.length = ys.length) (hb : xs.length ≤ 4611686018427387904) : loop (fun s : Int => if s < (xs.length : Int) then (ix xs s).bind fun a => (ix ys s).bind fun b => (f a b).bind fun c => if (!c) = true then some (.inr (.inr false)) else some (.inl (W (s + 1))) else some (.inr (.inl ()))) 0 = some (if xs = ys then (.inl () : Unit ⊕ Bool) else .inr false) := by
  have key : ∀ d k, k + d = xs.length → xs.take k = ys.take k → loop (fun s : Int => if s < (xs.length : Int) then (ix xs s).bind fun a => (ix ys s).bind fun b => (f a b).bind fun c => if (!c) = true then some (.inr (.inr false)) else some (.inl (W (s + 1))) else some (.inr (.inl ()))) (k : Int) = some (if xs = ys then (.inl () : Unit ⊕ Bool) else .inr false) := by
    intro d
    induction d with
    | zero =>
      intro k hk he
      refine loop_end ?_
      rw [if_neg (by omega), if_pos]
      rw [List.take_of_length_le (by omega), List.take_of_length_le (by omega)] at he
      exact he
    | succ d ih =>
      intro k hk he
      have h1 : k < xs.length := by omega
      have h2 : k < ys.length := by omega
      by_cases hxy : xs[k] = ys[k]
      · rw [loop_go (s' := ((k + 1 : Nat) : Int))]
        · exact ih (k + 1) (by omega) (by rw [List.take_succ_eq_append_getElem h1, List.take_succ_eq_append_getElem h2, he, hxy])
        · rw [if_pos (by omega), ix_nat h1, ix_nat h2]
          simp only [Option.bind_some, hf]
          rw [if_neg, W, W_nat (by omega)]
          simp [h1, h2, hxy]
      · refine loop_end ?_
        rw [if_pos (by omega), ix_nat h1, ix_nat h2]
        simp only [Option.bind_some, hf]
        rw [if_pos, if_neg]
        · intro e; subst e; exact hxy rfl
        · simp [h1, h2, hxy]
  exact key xs.length 0 (by omega) (by simp)
end Go.Proofs.Ythdoebgikbfndaa.E
