/- How many of a row are of a kind, when one of them is written. -/
import Derived.Test.YthdclobnmicdaaaPRch
namespace Go.Proofs.Ythdclobnmicdaaa
open Go Go.RowKit E
set_option linter.unusedVariables false

theorem countP_set' {α : Type} {p : α → Bool} {b d : α} (hb : p b = false) : ∀ {xs : List α} {i : Nat}, i < xs.length → p (xs.getD i d) = true → (xs.set i b).countP p + 1 = xs.countP p
  | [], i, h, _ => absurd h (by simp)
  | x :: xs, 0, _, h => by
    have h' : p x = true := by simpa using h
    simp [List.countP_cons, hb, h']
  | x :: xs, i + 1, hi, h => by
    have ih := countP_set' (p := p) (d := d) hb (xs := xs) (i := i) (by simpa using hi) (by simpa using h)
    simp only [List.set_cons_succ, List.countP_cons]
    omega
def unseen (s : List Bool) : Nat := s.countP (fun b => !b)
theorem unseen_set {s : List Bool} {v : Nat} (hv : v < s.length) (h : s.getD v default = false) : unseen (s.set v true) + 1 = unseen s :=
  countP_set' (p := fun b => !b) (d := default) rfl hv (by rw [h]; rfl)
def unset (s : List Int) : Nat := s.countP (fun b => decide (b < 0))
theorem unset_set {s : List Int} {v : Nat} {d : Int} (hd : 0 ≤ d) (hv : v < s.length) (h : s.getD v default < 0) : unset (s.set v d) + 1 = unset s :=
  countP_set' (p := fun b => decide (b < 0)) (d := default) (by simpa using hd) hv (by simpa using h)
theorem pour_meas {d : Int} (hd : 0 ≤ d) {l : List Nat} {s : List Int × List Nat} (hl : ∀ u ∈ l, u < s.1.length) : 2 * unset (pour d l s).1 + (pour d l s).2.length ≤ 2 * unset s.1 + s.2.length := by
  refine (pour_ind hd (fun q => 2 * unset q.1 + q.2.length ≤ 2 * unset s.1 + s.2.length) l s hl (fun out q u ho hu hneg h => ?_) (Nat.le_refl _)).1
  have := unset_set hd (s := out) (v := u) (by rw [ho]; exact hl u hu) hneg
  simp only [List.length_append, List.length_singleton] at h ⊢
  omega
def dfsMu (adj : Nat → List Nat) (D : Nat) (rs : List (Nat × Nat)) (seen : List Bool) : Nat := unseen seen * (2 * D + 3) + (rs.map fun x => 2 * ((adj x.1).length - x.2) + 1).sum
theorem dfsMu_pop {adj : Nat → List Nat} {D : Nat} {x : Nat × Nat} {rs : List (Nat × Nat)} {seen : List Bool} : dfsMu adj D rs seen < dfsMu adj D (x :: rs) seen := by
  unfold dfsMu; simp only [List.map_cons, List.sum_cons]; omega
theorem dfsMu_next {adj : Nat → List Nat} {D p k : Nat} {rs : List (Nat × Nat)} {seen : List Bool} (hk : k < (adj p).length) : dfsMu adj D ((p, k + 1) :: rs) seen < dfsMu adj D ((p, k) :: rs) seen := by
  unfold dfsMu; simp only [List.map_cons, List.sum_cons]; omega
theorem dfsMu_push {adj : Nat → List Nat} {D p k to : Nat} {rs : List (Nat × Nat)} {seen : List Bool} (hk : k < (adj p).length) (hD : (adj to).length ≤ D) (ht : to < seen.length) (hs : seen.getD to default = false) : dfsMu adj D ((to, 0) :: (p, k + 1) :: rs) (seen.set to true) < dfsMu adj D ((p, k) :: rs) seen := by
  have := unseen_set ht hs
  unfold dfsMu
  rw [← this, Nat.add_mul]
  simp only [List.map_cons, List.sum_cons]; omega
end Go.Proofs.Ythdclobnmicdaaa
