/- Lists of pairs of regexes: the program and the reference find the same ones right. -/
import Derived.Test.YtmmgpcnngaekoaaDOmegaPrint
import Derived.Test.YtmmgpcnngaekoaaWf
import Derived.Test.YtmmgpcnngaekoaaPReOkN
import Derived.Test.YtmmgpcnngaekoaaPNode
namespace Go.Proofs.Ytmmgpcnngaekoaa
open Go Go.RowKit E
set_option linter.unusedVariables false

theorem szNodeS_eq (xs : List TNode) (k : Int) (h : xs.length ≤ 9223372036854775807) (hk : 0 ≤ k ∧ k ≤ 1048576) : laws_szNodeS xs k = if (xs.length : Int) ≤ k then k - xs.length else -1 := by
  unfold laws_szNodeS
  rw [W, W_eq (by omega) (by omega)]
  split <;> split <;> omega
theorem szNodeS_le {xs : List TNode} {k : Int} (h : xs.length ≤ 9223372036854775807) (hk : 0 ≤ k ∧ k ≤ 1048576) : -1 ≤ laws_szNodeS xs k ∧ laws_szNodeS xs k ≤ 1048576 ∧ (0 ≤ laws_szNodeS xs k → xs.length ≤ 1048576) := by
  rw [szNodeS_eq xs k h hk]; split <;> omega
theorem szOmega_ok {o : TOmega} {k : Int} (w : TOmega.wf o) (hk : 0 ≤ k ∧ k ≤ 1048576) : -1 ≤ laws_szOmega o k ∧ laws_szOmega o k ≤ 1048576 ∧ (0 ≤ laws_szOmega o k → o.stem.length ≤ 1048576 ∧ o.loop.length ≤ 1048576) := by
  unfold laws_szOmega
  have h1 := szNodeS_le w.1.1 hk
  split
  · omega
  · have h2 := szNodeS_le w.2.1 (k := laws_szNodeS o.stem k) (by omega)
    split <;> omega
/-- Either it is too long, or each of its rows has at most so many nodes. -/
theorem szOmegaS_ok (os : List TOmega) (w : os.length ≤ 9223372036854775807 ∧ ∀ q ∈ os, TOmega.wf q) : ∃ r, laws_szOmegaS os 1048576 = some r ∧ (r < 0 ∨ (os.length ≤ 1048576 ∧ ∀ o ∈ os, o.stem.length ≤ 1048576 ∧ o.loop.length ≤ 1048576)) := by
  unfold laws_szOmegaS
  rw [W, W_eq (by omega) (by omega)]
  split
  · exact ⟨-1, rfl, .inl (by omega)⟩
  · have hl : os.length ≤ 1048576 := by omega
    have key : ∀ (r pre : List TOmega) (k : Int), os = pre ++ r → 0 ≤ k ∧ k ≤ 1048576 → (∀ o ∈ pre, o.stem.length ≤ 1048576 ∧ o.loop.length ≤ 1048576) →
        ∃ x, loop (fun s : Int × Int => laws_szOmegaS.b0 os s.1 s.2) (k, (pre.length : Int)) = some x ∧ ((∃ y, x = .inl y ∧ ∀ o ∈ os, o.stem.length ≤ 1048576 ∧ o.loop.length ≤ 1048576) ∨ x = .inr (-1)) := by
      intro r
      induction r with
      | nil =>
        intro pre k h hk hp
        refine ⟨.inl k, loop_end ?_, .inl ⟨k, rfl, by rw [h]; simpa using hp⟩⟩
        (try dsimp only); unfold laws_szOmegaS.b0; rw [if_neg (by rw [h]; simp)]
      | cons o r ih =>
        intro pre k h hk hp
        have hlt : pre.length < os.length := by rw [h]; simp
        have hix : ix os (pre.length : Int) = some o := by rw [ix_nat hlt, h]; simp
        have ho := szOmega_ok (w.2 o (by rw [h]; simp)) hk
        by_cases hz : laws_szOmega o k < 0
        · refine ⟨.inr (-1), loop_end ?_, .inr rfl⟩
          (try dsimp only); unfold laws_szOmegaS.b0; rw [if_pos (by omega), hix, Option.bind_some, if_pos hz]
        · obtain ⟨x, h1, h2⟩ := ih (pre ++ [o]) (laws_szOmega o k) (by rw [h]; simp) (by omega) (fun q hq => by
            rcases List.mem_append.mp hq with hq | hq
            · exact hp q hq
            · rw [List.mem_singleton.mp hq]; exact ho.2.2 (by omega))
          refine ⟨x, ?_, h2⟩
          rw [loop_go (s' := (laws_szOmega o k, ((pre ++ [o]).length : Int)))]
          · exact h1
          · (try dsimp only); unfold laws_szOmegaS.b0; rw [if_pos (by omega), hix, Option.bind_some, if_neg hz, W, W_nat (by omega)]; simp
    obtain ⟨x, h1, h2⟩ := key os [] (1048576 - os.length) rfl (by omega) (by simp)
    simp only [List.length_nil, Int.natCast_zero] at h1
    rw [h1, Option.bind_some]
    rcases h2 with ⟨y, rfl, h2⟩ | rfl
    · exact ⟨y, rfl, .inr ⟨hl, h2⟩⟩
    · exact ⟨-1, rfl, .inl (by omega)⟩
theorem toOmegaS_eq (os : List TOmega) (h : os.length ≤ 1048576) (hs : ∀ o ∈ os, o.stem.length ≤ 1048576 ∧ o.loop.length ≤ 1048576) : laws_toOmegaS os = some os := by
  unfold laws_toOmegaS
  rw [mk_ok (by omega) (by omega), Option.bind_some, Int.toNat_natCast]
  have h1 := loop_up (body := fun s : List TOmega × Int => laws_toOmegaS.b0 os s.1 s.2) os.length (fun k => (os.take k ++ List.replicate (os.length - k) (TOmega.mk [] []), (k : Int))) os (fun k hk => ?_) ?_ 0 (Nat.zero_le _)
  · simp only [List.take_zero, List.nil_append, Nat.sub_zero, Int.natCast_zero] at h1
    rw [h1]; rfl
  · (try dsimp only); unfold laws_toOmegaS.b0
    have hg : os.getD k default = os[k] := by simp [hk]
    have := hs os[k] (List.getElem_mem hk)
    have ht : laws_toOmega os[k] = some os[k] := by
      unfold laws_toOmega; rw [toNodeS_eq _ this.1, Option.bind_some, toNodeS_eq _ this.2]; rfl
    rw [if_pos (by omega), ix_nat hk, hg, Option.bind_some, ht, Option.bind_some, ck_nat (by simp; omega), Option.bind_some, W, W_nat (by omega)]
    rw [List.set_append_right _ _ (by simp; omega), show os.length - k = (os.length - (k + 1)) + 1 by omega, List.replicate_succ, List.take_succ_eq_append_getElem hk]
    have : k - (os.take k).length = 0 := by simp; omega
    rw [this]; simp only [List.set_cons_zero, List.append_assoc, List.singleton_append]
  · (try dsimp only); unfold laws_toOmegaS.b0; rw [if_neg (by omega)]; simp
theorem eqOmegaS_eq (xs ys : List TOmega) (h : xs.length ≤ 1048576) (hs : ∀ o ∈ xs, o.stem.length ≤ 1048576 ∧ o.loop.length ≤ 1048576) : laws_eqOmegaS xs xs = some true := by
  unfold laws_eqOmegaS
  rw [if_neg (by simp)]
  have h1 := loop_up (body := fun s : Int => laws_eqOmegaS.b0 xs xs s) xs.length (fun k => (k : Int)) (.inl ()) (fun k hk => ?_) ?_ 0 (Nat.zero_le _)
  · simp only [Int.natCast_zero] at h1
    rw [h1]; rfl
  · (try dsimp only); unfold laws_eqOmegaS.b0
    have hg : xs.getD k default = xs[k] := by simp [hk]
    have := hs xs[k] (List.getElem_mem hk)
    have ht : laws_eqOmega xs[k] xs[k] = some true := by
      unfold laws_eqOmega; rw [eqNodeS_eq _ _ this.1, Option.bind_some, eqNodeS_eq _ _ this.2]; simp
    rw [if_pos (by omega), ix_nat hk, hg]
    simp only [Option.bind_some, ht]
    rw [if_neg (by simp), W, W_nat (by omega)]
  · (try dsimp only); unfold laws_eqOmegaS.b0; rw [if_neg (by omega)]
noncomputable def omegaB (os : List TOmega) : Bool := os.all fun o => treeOk reP o.stem && treeOk reP o.loop
theorem omega_loop (os : List TOmega) (hl : os.length ≤ 1048576) (b : Int → Option (Int ⊕ (Unit ⊕ Bool))) (hb : ∀ k, k < os.length → b (k : Int) = some (if (treeOk reP (os.getD k default).stem && treeOk reP (os.getD k default).loop) = true then .inl ((k + 1 : Nat) : Int) else .inr (.inr false))) (he : b (os.length : Int) = some (.inr (.inl ()))) :
    loop b 0 = some (if omegaB os = true then .inl () else .inr false) := by
  have key : ∀ (r pre : List TOmega), os = pre ++ r → loop b (pre.length : Int) = some (if omegaB r = true then .inl () else .inr false) := by
    intro r
    induction r with
    | nil => intro pre h; have : pre.length = os.length := by rw [h]; simp
             rw [this, loop_end he]; simp [omegaB]
    | cons o r ih =>
      intro pre h
      have hlt : pre.length < os.length := by rw [h]; simp
      have ho : os.getD pre.length default = o := by rw [h]; simp
      have h1 := hb _ hlt
      rw [ho] at h1
      by_cases g : (treeOk reP o.stem && treeOk reP o.loop) = true
      · rw [if_pos g] at h1
        rw [loop_go h1]
        have := ih (pre ++ [o]) (by rw [h]; simp)
        simp only [List.length_append, List.length_singleton] at this
        rw [this]; simp [omegaB, g]
      · rw [if_neg g] at h1
        rw [loop_end h1]
        have : omegaB (o :: r) = false := by simp only [omegaB, List.all_cons]; simp only [Bool.not_eq_true] at g; rw [g]; rfl
        rw [this]; rfl
  exact key os [] rfl
theorem specOmegaOk_eq (os : List TOmega) (hl : os.length ≤ 1048576) : spec_OmegaOk os = some (decide (os.length ≤ 4) && omegaB os) := by
  unfold spec_OmegaOk
  have hlp := omega_loop os hl (fun s => spec_OmegaOk.b0 os s) (fun k hk => by
    (try dsimp only); unfold spec_OmegaOk.b0
    have hix := ix_nat hk
    generalize os.getD k default = o at hix
    rw [if_pos (by omega), hix]
    simp only [Option.bind_some, specReOk_eq, bnd]
    cases hA : treeOk reP o.stem <;> cases hB : treeOk reP o.loop <;> simp [whenO_t, whenO_f, W_nat (show k < 9223372036854775807 by omega), W, hix, specReOk_eq, hB]) (by (try dsimp only); unfold spec_OmegaOk.b0; rw [if_neg (by omega)])
  by_cases h : (os.length : Int) > 4
  · rw [if_pos h, decide_eq_false (by omega)]; rfl
  · rw [if_neg h, hlp, decide_eq_true (by omega)]
    by_cases g : omegaB os = true
    · rw [if_pos g, g]; rfl
    · rw [if_neg g]; simp only [Bool.not_eq_true] at g; rw [g]; rfl
theorem implOmegaOk_eq (os : List TOmega) (hl : os.length ≤ 1048576) : impl_OmegaOk os = some (decide (os.length ≤ 4) && omegaB os) := by
  unfold impl_OmegaOk
  have hlp := omega_loop os hl (fun s => impl_OmegaOk.b0 os s) (fun k hk => by
    (try dsimp only); unfold impl_OmegaOk.b0
    have hix := ix_nat hk
    generalize os.getD k default = o at hix
    rw [if_pos (by omega), hix]
    simp only [Option.bind_some, implReOk_eq, bnd]
    cases hA : treeOk reP o.stem <;> cases hB : treeOk reP o.loop <;> simp [whenO_t, whenO_f, W_nat (show k < 9223372036854775807 by omega), W, hix, implReOk_eq, hB]) (by (try dsimp only); unfold impl_OmegaOk.b0; rw [if_neg (by omega)])
  rw [hlp]
  by_cases g : omegaB os = true
  · rw [if_pos g, g]; simp [impl_OmegaOk.k0]; omega
  · rw [if_neg g]; simp only [Bool.not_eq_true] at g; rw [g]; simp
end Go.Proofs.Ytmmgpcnngaekoaa
