/- The program's product of boxes, cell by cell; right boxes. -/
import Derived.Test.YtcmbbpdepobnlaaDBoxes
import Derived.Test.YtcmbbpdepobnlaaPBoxR
namespace Go.Proofs.Ytcmbbpdepobnlaa
open Go Go.RowKit E
set_option linter.unusedVariables false

theorem cellI {m p r : Nat} (hm : 1 ≤ m ∧ m ≤ 4) (hp : p < m) (hr : r < m) : W (W ((p : Int) * (m : Int)) + (r : Int)) = ((p * m + r : Nat) : Int) := by
  obtain ⟨h1, h2, h3, h4⟩ := pq4 hm hp hr
  have w : W ((p : Int) * (m : Int)) = (p : Int) * (m : Int) := W_eq (by omega) (by omega)
  rw [w, W, W_eq (by omega) (by omega), h1]
theorem mmI {m : Nat} (hm : 1 ≤ m ∧ m ≤ 4) : W ((m : Int) * (m : Int)) = ((m * m : Nat) : Int) ∧ m * m ≤ 16 := by
  have : m = 1 ∨ m = 2 ∨ m = 3 ∨ m = 4 := by omega
  rcases this with rfl | rfl | rfl | rfl <;> decide
theorem mx3 (a b c : Int) : mx (mx a b) c = max a (max b c) := by rw [mx_max, mx_max]; omega
theorem implMul_q {m : Nat} (hm : 1 ≤ m ∧ m ≤ 4) {x y : List Int} (hx : Bx m x) (hy : Bx m y) {p r : Nat} (hp : p < m) (hr : r < m) (h1 : x.getD (p * m + r) 0 ≠ 0) {zs : List Int} (hz : TabL zs m (valI x y m p r 0)) :
    ∃ zs', loop (fun s : List Int × Int => impl_boxMul.b2 (m : Int) y (r : Int) (p : Int) x s.1 s.2) (zs, 0) = some zs' ∧ TabL zs' m (valI x y m p r m) := by
  refine loop_inv (I := fun s : List Int × Int => ∃ q : Nat, s.2 = q ∧ q ≤ m ∧ TabL s.1 m (valI x y m p r q)) (μ := fun s => m - s.2.toNat) (R := fun z => TabL z m (valI x y m p r m)) ?_ (s := (zs, 0)) ⟨0, rfl, Nat.zero_le _, hz⟩
  rintro ⟨z, q'⟩ ⟨q, e, hq, hT⟩
  dsimp only at e hT ⊢
  subst e
  unfold impl_boxMul.b2
  by_cases k : q < m
  · right
    have c1 := cell_lt hr k
    have c2 := cell_lt hp k
    have c3 := cell_lt hp hr
    rw [if_pos (by omega), cellI hm hr k, ix_nat (by rw [hy.1]; exact c1), Option.bind_some, show (default : Int) = 0 from rfl]
    have wq : W ((q : Int) + 1) = ((q + 1 : Nat) : Int) := W_nat (by omega)
    by_cases g : y.getD (r * m + q) 0 ≠ 0
    · have hx0 := hx.2 (p * m + r)
      have hy0 := hy.2 (r * m + q)
      rw [if_pos g, cellI hm hp k, cellI hm hp hr, ix_nat (by rw [hT.1]; exact c2), Option.bind_some, ix_nat (by rw [hx.1]; exact c3), Option.bind_some, Option.bind_some, ck_nat (by rw [hT.1]; exact c2), Option.bind_some, wq]
      refine ⟨_, rfl, ⟨q + 1, rfl, k, ?_⟩, by dsimp only; omega⟩
      exact valI_yes hT hp k (by omega) (by omega) (mx3 _ _ _)
    · rw [if_neg g, wq]
      exact ⟨_, rfl, ⟨q + 1, rfl, k, valI_no hT g⟩, by dsimp only; omega⟩
  · left
    rw [if_neg (by omega)]
    have : q = m := by omega
    subst this
    exact ⟨_, rfl, hT⟩
theorem implMul_r {m : Nat} (hm : 1 ≤ m ∧ m ≤ 4) {x y : List Int} (hx : Bx m x) (hy : Bx m y) {p : Nat} (hp : p < m) {zs : List Int} (hz : TabL zs m (valI x y m p 0 0)) :
    ∃ zs', loop (fun s : List Int × Int => impl_boxMul.b1 (m : Int) x (p : Int) y s.1 s.2) (zs, 0) = some zs' ∧ TabL zs' m (valI x y m p m 0) := by
  refine loop_inv (I := fun s : List Int × Int => ∃ r : Nat, s.2 = r ∧ r ≤ m ∧ TabL s.1 m (valI x y m p r 0)) (μ := fun s => m - s.2.toNat) (R := fun z => TabL z m (valI x y m p m 0)) ?_ (s := (zs, 0)) ⟨0, rfl, Nat.zero_le _, hz⟩
  rintro ⟨z, q'⟩ ⟨r, e, hq, hT⟩
  dsimp only at e hT ⊢
  subst e
  unfold impl_boxMul.b1
  by_cases k : r < m
  · right
    have c3 := cell_lt hp k
    have wq : W ((r : Int) + 1) = ((r + 1 : Nat) : Int) := W_nat (by omega)
    rw [if_pos (by omega), cellI hm hp k, ix_nat (by rw [hx.1]; exact c3), Option.bind_some, show (default : Int) = 0 from rfl]
    unfold impl_boxMul.k2
    by_cases g : x.getD (p * m + r) 0 = 0
    · rw [if_pos g, wq]
      exact ⟨_, rfl, ⟨r + 1, rfl, k, valI_skip hT g⟩, by dsimp only; omega⟩
    · obtain ⟨zs', e1, e2⟩ := implMul_q hm hx hy hp k g hT
      rw [if_neg g, e1, Option.bind_some, wq]
      exact ⟨_, rfl, ⟨r + 1, rfl, k, valI_r e2 rfl⟩, by dsimp only; omega⟩
  · left
    rw [if_neg (by omega)]
    have : r = m := by omega
    subst this
    exact ⟨_, rfl, hT⟩
theorem implMul_eq {m : Nat} (hm : 1 ≤ m ∧ m ≤ 4) {x y : List Int} (hx : Bx m x) (hy : Bx m y) : impl_boxMul (m : Int) x y = some (boxMulL m x y) := by
  obtain ⟨h1, h2⟩ := mmI hm
  unfold impl_boxMul
  rw [h1, mk_ok (by omega) (by omega), Option.bind_some, Int.toNat_natCast]
  obtain ⟨zs, e1, e2⟩ := loop_inv (body := fun s : List Int × Int => impl_boxMul.b0 (m : Int) x y s.1 s.2) (fun s : List Int × Int => ∃ p : Nat, s.2 = p ∧ p ≤ m ∧ TabL s.1 m (valI x y m p 0 0)) (fun s => m - s.2.toNat) (fun z => z = boxMulL m x y) (by
    rintro ⟨z, q'⟩ ⟨p, e, hq, hT⟩
    dsimp only at e hT ⊢
    subst e
    unfold impl_boxMul.b0
    by_cases k : p < m
    · right
      have wq : W ((p : Int) + 1) = ((p + 1 : Nat) : Int) := W_nat (by omega)
      obtain ⟨zs', e1, e2⟩ := implMul_r hm hx hy k hT
      rw [if_pos (by omega), e1, Option.bind_some]
      unfold impl_boxMul.k1
      rw [wq]
      exact ⟨_, rfl, ⟨p + 1, rfl, k, valI_p e2 rfl⟩, by dsimp only; omega⟩
    · left
      rw [if_neg (by omega)]
      exact ⟨_, rfl, valI_end hT (by omega)⟩) (s := (List.replicate (m * m) 0, 0)) ⟨0, rfl, Nat.zero_le _, TabL.zero m rfl _ valI_0⟩
  rw [e1, Option.bind_some, e2]; rfl
noncomputable instance (m : Nat) (x : List Int) : Decidable (Bx m x) := Classical.propDecidable _
/-- Right boxes. -/
noncomputable def boxOk (n : Int) (x : List Int) : Bool := decide (1 ≤ n ∧ n ≤ 4 ∧ Bx n.toNat x)
theorem boxed_eq (n : Int) : impl_isBoxed n = decide (1 ≤ n ∧ n ≤ 4) := by unfold impl_isBoxed impl_inRange; rw [bnd_eq]; exact inR
theorem bx_iff {m : Nat} {x : List Int} : Bx m x ↔ x.length = m * m ∧ ∀ k ∈ x, 0 ≤ k ∧ k ≤ 2 := by
  constructor
  · rintro ⟨h1, h2⟩
    refine ⟨h1, fun k hk => ?_⟩
    obtain ⟨i, hi, rfl⟩ := List.getElem_of_mem hk
    have := h2 i
    simpa [hi] using this
  · rintro ⟨h1, h2⟩
    refine ⟨h1, fun i => ?_⟩
    by_cases hi : i < x.length
    · have := h2 _ (List.getElem_mem hi)
      simpa [hi] using this
    · simp [List.getD, List.getElem?_eq_none (by omega : x.length ≤ i)]
theorem in02 (a : Int) : impl_inRange a 0 2 = decide (0 ≤ a ∧ a ≤ 2) := by unfold impl_inRange; rw [bnd_eq]; exact inR
theorem okLoop (f : Int → Bool) (body : Int → Option (Int ⊕ (Unit ⊕ Bool))) (x : List Int) (hx : x.length ≤ 4611686018427387904) (hb : ∀ i : Int, body i = if i < (x.length : Int) then (ix x i).bind fun a => if (!(f a)) = true then some (.inr (.inr false)) else some (.inl (W (i + 1))) else some (.inr (.inl ()))) : loop body 0 = some (if x.all f = true then (.inl () : Unit ⊕ Bool) else .inr false) := by
  have key : ∀ (r pre : List Int), x = pre ++ r → loop body (pre.length : Int) = some (if r.all f = true then (.inl () : Unit ⊕ Bool) else .inr false) := by
    intro r
    induction r with
    | nil => intro pre h; refine loop_end ?_; rw [hb, if_neg (by rw [h]; simp)]; rfl
    | cons n r ih =>
      intro pre h
      have hk : pre.length < x.length := by rw [h]; simp
      have hix : ix x (pre.length : Int) = some n := by rw [ix_nat hk, h]; simp
      by_cases c : f n = true
      · rw [loop_go (s' := ((pre ++ [n]).length : Int))]
        · rw [ih (pre ++ [n]) (by rw [h]; simp), List.all_cons, c, Bool.true_and]
        · rw [hb, if_pos (by omega), hix, Option.bind_some, if_neg (by simp [c]), W, W_nat (by omega)]
          simp
      · rw [loop_end (r := .inr false)]
        · rw [List.all_cons, Bool.eq_false_iff.mpr c]; rfl
        · rw [hb, if_pos (by omega), hix, Option.bind_some, if_pos (by simp [c])]
  exact key x [] rfl
theorem implBoxOk_eq (n : Int) (x : List Int) (hx : x.length ≤ 4611686018427387904) : impl_BoxOk n x = some (boxOk n x) := by
  unfold impl_BoxOk boxOk
  rw [bnd_eq, boxed_eq]
  by_cases hn : 1 ≤ n ∧ n ≤ 4
  · obtain ⟨m, rfl⟩ : ∃ m : Nat, n = m := ⟨n.toNat, by omega⟩
    have hm : 1 ≤ m ∧ m ≤ 4 := by omega
    rw [decide_eq_true hn, (mmI hm).1]
    by_cases hl : x.length = m * m
    · rw [if_neg (by simp [hl]), okLoop (fun a => impl_inRange a 0 2) (fun s : Int => impl_BoxOk.b0 x s) x hx (fun i => rfl), Option.bind_some]
      by_cases hA : x.all (fun a => impl_inRange a 0 2) = true
      · rw [if_pos hA, Sum.elim_inl, impl_BoxOk.k0, decide_eq_true]
        refine ⟨hn.1, hn.2, ?_⟩
        rw [Int.toNat_natCast, bx_iff]
        refine ⟨hl, fun k hk => ?_⟩
        have := List.all_eq_true.mp hA k hk
        rw [in02] at this
        simpa using this
      · rw [if_neg hA, Sum.elim_inr, decide_eq_false]
        rintro ⟨_, _, h⟩
        rw [Int.toNat_natCast, bx_iff] at h
        refine hA (List.all_eq_true.mpr fun k hk => ?_)
        rw [in02]; simpa using h.2 k hk
    · rw [if_pos (by simp; omega), decide_eq_false]
      rintro ⟨_, _, h⟩
      rw [Int.toNat_natCast] at h
      exact hl h.1
  · rw [decide_eq_false hn, if_pos (by simp), decide_eq_false]
    rintro ⟨h1, h2, _⟩
    exact hn ⟨h1, h2⟩
/-- The box of no letter. -/
def oneL (m : Nat) : List Int := (List.range (m * m)).map fun i => if i / m = i % m then 1 else 0
theorem TabL.one (m : Nat) : TabL (oneL m) m (fun a b => if a = b then 1 else 0) := by
  refine ⟨by simp [oneL], fun a b ha hb => ?_⟩
  have hl := cell_lt ha hb
  have h1 : (a * m + b) / m = a := by rw [Nat.mul_comm, Nat.mul_add_div (by omega), Nat.div_eq_of_lt hb, Nat.add_zero]
  have h2 : (a * m + b) % m = b := by rw [Nat.mul_comm, Nat.mul_add_mod, Nat.mod_eq_of_lt hb]
  simp [oneL, hl, h1, h2]
theorem one_bx (m : Nat) : Bx m (oneL m) := by
  rw [bx_iff]
  refine ⟨by simp [oneL], fun k hk => ?_⟩
  unfold oneL at hk
  obtain ⟨i, _, rfl⟩ := List.mem_map.mp hk
  split <;> omega
theorem implOne_eq {m : Nat} (hm : 1 ≤ m ∧ m ≤ 4) : impl_boxOne (m : Int) = some (oneL m) := by
  have : m = 1 ∨ m = 2 ∨ m = 3 ∨ m = 4 := by omega
  unfold impl_boxOne
  obtain ⟨h1, h2⟩ := mmI hm
  rw [h1, mk_ok (by omega) (by omega), Option.bind_some, Int.toNat_natCast]
  obtain ⟨zs, e1, e2⟩ := loop_inv (body := fun s : List Int × Int => impl_boxOne.b0 (m : Int) s.1 s.2) (fun s : List Int × Int => ∃ p : Nat, s.2 = p ∧ p ≤ m ∧ TabL s.1 m (fun a b => if a < p ∧ a = b then 1 else 0)) (fun s => m - s.2.toNat) (fun z => z = oneL m) (by
    rintro ⟨z, q'⟩ ⟨p, e, hq, hT⟩
    dsimp only at e hT ⊢
    subst e
    unfold impl_boxOne.b0
    by_cases k : p < m
    · right
      have wq : W ((p : Int) + 1) = ((p + 1 : Nat) : Int) := W_nat (by omega)
      have c := cell_lt k k
      rw [if_pos (by omega), cellI hm k k, ck_nat (by rw [hT.1]; exact c), Option.bind_some, wq]
      refine ⟨_, rfl, ⟨p + 1, rfl, k, ?_⟩, by dsimp only; omega⟩
      refine (hT.set k k).congr fun a b ha hb => ?_
      by_cases c1 : a = p ∧ b = p
      · rw [if_pos c1, if_pos (by omega)]
      · rw [if_neg c1]
        by_cases c2 : a < p ∧ a = b
        · rw [if_pos c2, if_pos (by omega)]
        · rw [if_neg c2, if_neg (by omega)]
    · left
      rw [if_neg (by omega)]
      refine ⟨_, rfl, TabL.ext (hT.congr fun a b ha hb => ?_) (TabL.one m)⟩
      by_cases c : a = b
      · rw [if_pos (by omega), if_pos c]
      · rw [if_neg (by omega), if_neg c]) (s := (List.replicate (m * m) 0, 0)) ⟨0, rfl, Nat.zero_le _, TabL.zero m rfl _ (fun a b _ _ => by rw [if_neg (by omega)])⟩
  rw [e1, Option.bind_some, e2]; rfl
end Go.Proofs.Ytcmbbpdepobnlaa
