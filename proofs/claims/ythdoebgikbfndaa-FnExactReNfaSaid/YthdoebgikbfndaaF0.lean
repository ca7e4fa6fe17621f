/- The words that printed functions are made of: plain Lean, no program in sight. -/
import Derived.Test.YthdoebgikbfndaaE14
namespace Go.Proofs.Ythdoebgikbfndaa.E
open Go Go.RowKit
set_option linter.unusedVariables false

/-- A whole number of 64 bits. -/
abbrev W (a : Int) : Int := IntKind.i64.wrap a
theorem W_eq {a : Int} (h : -9223372036854775808 ≤ a) (k : a ≤ 9223372036854775807) : IntKind.i64.wrap a = a := wrap_ok ⟨h, k⟩
def bnd {α β : Type} (x : α) (f : α → β) : β := f x
def whenO {α : Type} [Inhabited α] (g : Bool) (x : Option α) : Option α := if g = true then x else some default
def chk (g : Bool) : Option Unit := if g = true then some () else none
def ck (i : Int) (n : Nat) : Option Nat := if 0 ≤ i ∧ i < n then some i.toNat else none
def ix {α : Type} [Inhabited α] (xs : List α) (i : Int) : Option α := if 0 ≤ i ∧ i < xs.length then some (xs.getD i.toNat default) else none
def ixs (s : ByteArray) (i : Int) : Option Int := if 0 ≤ i ∧ i < s.size then some ((s.data.toList.getD i.toNat 0).toNat : Int) else none
def cat (a b : ByteArray) : Option ByteArray := if ((a.size + b.size : Nat) : Int) > IntKind.i64.max then none else some (a ++ b)
def mk {α : Type} (y : Nat) (z : α) (n : Int) : Option (List α) := if 0 ≤ n ∧ (y : Int) * n ≤ 281474976710656 then some (List.replicate n.toNat z) else none
def app {α : Type} (y : Nat) (xs ys : List α) : Option (List α) := if (xs.length + ys.length) * y ≤ 140737488355328 ∧ xs.length + ys.length ≤ 4611686018427387904 then some (xs ++ ys) else none
def bAnd (k : IntKind) (a b : Int) : Int := k.wrap (BitVec.ofInt k.bits a &&& BitVec.ofInt k.bits b).toNat
def bOr (k : IntKind) (a b : Int) : Int := k.wrap (BitVec.ofInt k.bits a ||| BitVec.ofInt k.bits b).toNat
def bXor (k : IntKind) (a b : Int) : Int := k.wrap (BitVec.ofInt k.bits a ^^^ BitVec.ofInt k.bits b).toNat
def bNot (k : IntKind) (a b : Int) : Int := k.wrap (BitVec.ofInt k.bits a &&& ~~~BitVec.ofInt k.bits b).toNat
def shl (k : IntKind) (a b : Int) : Int := k.wrap (a * 2 ^ (min b.toNat k.bits))
def shr (k : IntKind) (a b : Int) : Int := a.fdiv (2 ^ (min b.toNat k.bits))
def quo (k : IntKind) (a b : Int) : Int := k.wrap (a.tdiv b)
def mx (a b : Int) : Int := if b > a then b else a
def mn (a b : Int) : Int := if b < a then b else a
theorem mx_max (a b : Int) : mx a b = max a b := by unfold mx; omega
theorem mn_min (a b : Int) : mn a b = min a b := by unfold mn; omega

/-- A loop: rounds until one hands something over. -/
def iterN {σ ρ : Type} (body : σ → Option (σ ⊕ ρ)) : Nat → σ → Option ρ
  | 0, _ => none
  | k + 1, s => match body s with
    | none => none
    | some (.inl s') => iterN body k s'
    | some (.inr r) => some r
theorem iterN_mono {σ ρ : Type} {body : σ → Option (σ ⊕ ρ)} : ∀ {k : Nat} {s : σ} {r : ρ}, iterN body k s = some r → ∀ j, iterN body (k + j) s = some r
  | 0, _, _, h, _ => by cases h
  | k + 1, s, r, h, j => by
    rw [Nat.add_right_comm]
    simp only [iterN] at h ⊢
    cases hb : body s with
    | none => rw [hb] at h; cases h
    | some x =>
      rw [hb] at h
      cases x with
      | inl s' => exact iterN_mono h j
      | inr q => exact h
open Classical in
noncomputable def loop {σ ρ : Type} (body : σ → Option (σ ⊕ ρ)) (s : σ) : Option ρ :=
  if h : ∃ r, ∃ k, iterN body k s = some r then some (Classical.choose h) else none
theorem loop_iff {σ ρ : Type} {body : σ → Option (σ ⊕ ρ)} {s : σ} {r : ρ} : loop body s = some r ↔ ∃ k, iterN body k s = some r := by
  unfold loop
  constructor
  · intro h
    split at h
    · rename_i g; cases h; exact Classical.choose_spec g
    · cases h
  · rintro ⟨k, h⟩
    have g : ∃ r, ∃ k, iterN body k s = some r := ⟨r, k, h⟩
    rw [dif_pos g]
    obtain ⟨j, hj⟩ := Classical.choose_spec g
    have h1 := iterN_mono h j
    have h2 := iterN_mono hj k
    rw [Nat.add_comm] at h2
    rw [h1] at h2
    exact h2.symm
theorem loop_end {σ ρ : Type} {body : σ → Option (σ ⊕ ρ)} {s : σ} {r : ρ} (h : body s = some (.inr r)) : loop body s = some r := loop_iff.mpr ⟨1, by simp [iterN, h]⟩
theorem loop_go {σ ρ : Type} {body : σ → Option (σ ⊕ ρ)} {s s' : σ} (h : body s = some (.inl s')) : loop body s = loop body s' := by
  have key : ∀ r, loop body s = some r ↔ loop body s' = some r := by
    intro r
    rw [loop_iff, loop_iff]
    constructor
    · rintro ⟨k, hk⟩
      cases k with
      | zero => cases hk
      | succ k => simp only [iterN, h] at hk; exact ⟨k, hk⟩
    · rintro ⟨k, hk⟩; exact ⟨k + 1, by simp only [iterN, h]; exact hk⟩
  cases h1 : loop body s with
  | some r => exact ((key r).mp h1).symm
  | none => cases h2 : loop body s' with
    | none => rfl
    | some r => rw [(key r).mpr h2] at h1; cases h1
/-- What a loop hands over, by an invariant and a number that goes down. -/
theorem loop_inv {σ ρ : Type} {body : σ → Option (σ ⊕ ρ)} (I : σ → Prop) (μ : σ → Nat) (R : ρ → Prop)
    (step : ∀ s, I s → (∃ r, body s = some (.inr r) ∧ R r) ∨ ∃ s', body s = some (.inl s') ∧ I s' ∧ μ s' < μ s) {s : σ} (h : I s) : ∃ r, loop body s = some r ∧ R r := by
  induction hm : μ s using Nat.strongRecOn generalizing s with
  | _ m ih =>
    rcases step s h with ⟨r, h1, h2⟩ | ⟨s', h1, h2, h3⟩
    · exact ⟨r, loop_end h1, h2⟩
    · obtain ⟨r, g1, g2⟩ := ih (μ s') (by omega) h2 rfl
      exact ⟨r, by rw [loop_go h1]; exact g1, g2⟩
theorem loop_eq {σ ρ : Type} {body : σ → Option (σ ⊕ ρ)} (r : ρ) (I : σ → Prop) (μ : σ → Nat)
    (step : ∀ s, I s → body s = some (.inr r) ∨ ∃ s', body s = some (.inl s') ∧ I s' ∧ μ s' < μ s) {s : σ} (h : I s) : loop body s = some r := by
  obtain ⟨q, h1, rfl⟩ := loop_inv I μ (fun q => q = r) (fun s hs => by
    rcases step s hs with h | h
    · exact .inl ⟨r, h, rfl⟩
    · exact .inr h) h
  exact h1
/-- The same from the other side: what a loop that ends has gone through. -/
theorem loop_some {σ ρ : Type} {body : σ → Option (σ ⊕ ρ)} (I : σ → Prop) (R : ρ → Prop) (go : ∀ s s', I s → body s = some (.inl s') → I s') (fin : ∀ s r, I s → body s = some (.inr r) → R r)
    {s : σ} {r : ρ} (h : I s) (hl : loop body s = some r) : R r := by
  obtain ⟨k, hk⟩ := loop_iff.mp hl
  clear hl
  induction k generalizing s with
  | zero => cases hk
  | succ k ih =>
    simp only [iterN] at hk
    cases hb : body s with
    | none => rw [hb] at hk; cases hk
    | some x =>
      rw [hb] at hk
      cases x with
      | inl s' => exact ih (go _ _ h hb) hk
      | inr q => cases hk; exact fin _ _ h hb

theorem bindE {α β : Type} {x : Option α} {f : α → Option β} {r : β} (h : x.bind f = some r) : ∃ a, x = some a ∧ f a = some r := Option.bind_eq_some_iff.mp h
theorem bndE {α β : Type} {x : α} {f : α → β} {r : β} (h : bnd x f = r) : ∃ a, a = x ∧ f a = r := ⟨x, rfl, h⟩
theorem someE {α : Type} {a b : α} (h : some a = some b) : a = b := Option.some.inj h
theorem sumL {α β γ : Type} {f : α → γ} {g : β → γ} {a : α} {z : γ} (h : Sum.elim f g (.inl a) = z) : f a = z := h
theorem sumR {α β γ : Type} {f : α → γ} {g : β → γ} {b : β} {z : γ} (h : Sum.elim f g (.inr b) = z) : g b = z := h
theorem whenE {α : Type} [Inhabited α] {x : Option α} {a : α} (h : whenO true x = some a) : x = some a := h
theorem chkE {g : Bool} {u : Unit} (h : chk g = some u) : g = true := by
  unfold chk at h; split at h
  · assumption
  · cases h
theorem ckE {i : Int} {n j : Nat} (h : ck i n = some j) : 0 ≤ i ∧ i < n ∧ i.toNat = j ∧ j < n := by
  unfold ck at h; split at h
  · rename_i k; cases h; exact ⟨k.1, k.2, rfl, by omega⟩
  · cases h
theorem ixE {α : Type} [Inhabited α] {xs : List α} {i : Int} {a : α} (h : ix xs i = some a) : 0 ≤ i ∧ i < xs.length ∧ xs.getD i.toNat default = a := by
  unfold ix at h; split at h
  · rename_i k; cases h; exact ⟨k.1, k.2, rfl⟩
  · cases h
theorem ck_nat {k n : Nat} (h : k < n) : ck (k : Int) n = some k := by unfold ck; rw [if_pos ⟨by omega, by omega⟩]; simp
theorem ck_ok {i : Int} {n : Nat} (h : 0 ≤ i) (k : i < n) : ck i n = some i.toNat := by unfold ck; rw [if_pos ⟨h, k⟩]
theorem ix_nat {α : Type} [Inhabited α] {xs : List α} {k : Nat} (h : k < xs.length) : ix xs (k : Int) = some (xs.getD k default) := by unfold ix; rw [if_pos ⟨by omega, by omega⟩]; simp
theorem ix_ok {α : Type} [Inhabited α] {xs : List α} {i : Int} (h : 0 ≤ i) (k : i < xs.length) : ix xs i = some (xs.getD i.toNat default) := by unfold ix; rw [if_pos ⟨h, k⟩]
theorem app_ok {α : Type} {y : Nat} {xs ys : List α} (h : (xs.length + ys.length) * y ≤ 140737488355328) (k : xs.length + ys.length ≤ 4611686018427387904) : app y xs ys = some (xs ++ ys) := by unfold app; rw [if_pos ⟨h, k⟩]
theorem app_small {α : Type} {y : Nat} {xs ys : List α} (h : xs.length + ys.length ≤ 1000000000) (hy : y ≤ 1000) : app y xs ys = some (xs ++ ys) := by
  refine app_ok ?_ (by omega)
  have : (xs.length + ys.length) * y ≤ 1000000000 * 1000 := Nat.mul_le_mul h hy
  omega
theorem mk_ok {α : Type} {y : Nat} {z : α} {n : Int} (h : 0 ≤ n) (k : (y : Int) * n ≤ 281474976710656) : mk y z n = some (List.replicate n.toNat z) := by unfold mk; rw [if_pos ⟨h, k⟩]
theorem appE {α : Type} {y : Nat} {xs ys zs : List α} (h : app y xs ys = some zs) : (xs.length + ys.length) * y ≤ 140737488355328 ∧ xs.length + ys.length ≤ 4611686018427387904 ∧ xs ++ ys = zs := by
  unfold app at h; split at h
  · rename_i k; cases h; exact ⟨k.1, k.2, rfl⟩
  · cases h
theorem mkE {α : Type} {y : Nat} {z : α} {n : Int} {zs : List α} (h : mk y z n = some zs) : 0 ≤ n ∧ (y : Int) * n ≤ 281474976710656 ∧ List.replicate n.toNat z = zs := by
  unfold mk at h; split at h
  · rename_i k; cases h; exact ⟨k.1, k.2, rfl⟩
  · cases h
theorem catE {a b c : ByteArray} (h : cat a b = some c) : ¬ ((a.size + b.size : Nat) : Int) > IntKind.i64.max ∧ a ++ b = c := by
  unfold cat at h; split at h
  · cases h
  · rename_i k; cases h; exact ⟨k, rfl⟩
theorem ixsE {s : ByteArray} {i c : Int} (h : ixs s i = some c) : 0 ≤ i ∧ i < s.size ∧ ((s.data.toList.getD i.toNat 0).toNat : Int) = c := by
  unfold ixs at h; split at h
  · rename_i k; cases h; exact ⟨k.1, k.2, rfl⟩
  · cases h
theorem nlt {n m : Nat} (h : Nat.ble n m = true) : n ≤ m := Nat.le_of_ble_eq_true h
theorem gN {c : Bool} (h : (!c) = true) : c = false := by cases c; rfl; cases h
theorem gA1 {a b : Bool} (h : (a && b) = true) : a = true := by cases a; cases h; rfl
theorem gA2 {a b : Bool} (h : (a && b) = true) : b = true := by cases a; cases h; exact h
end Go.Proofs.Ythdoebgikbfndaa.E
