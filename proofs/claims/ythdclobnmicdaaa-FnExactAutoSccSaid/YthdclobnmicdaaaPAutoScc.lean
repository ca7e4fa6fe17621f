/- The ring of each state, named by its least state: the program says what the reference says. -/
import Derived.Test.YthdclobnmicdaaaDAutoScc
import Derived.Test.YthdclobnmicdaaaWf
import Derived.Test.YthdclobnmicdaaaPLive
import Derived.Test.YthdclobnmicdaaaPMarkE
import Derived.Test.YthdclobnmicdaaaPMarkI
import Derived.Test.YthdclobnmicdaaaPEqI
namespace Go.Proofs.Ythdclobnmicdaaa
open Go Go.RowKit E
set_option linter.unusedVariables false

def dn (c : Nat → Bool) : Nat → Nat → Nat
  | 0, cur => cur
  | m + 1, cur => dn c m (if c m = true then m else cur)
theorem dn_spec (c : Nat → Bool) : ∀ m cur, c cur = true → m ≤ cur + 1 → (∀ j, m ≤ j → j < cur → c j = false) → c (dn c m cur) = true ∧ dn c m cur ≤ cur ∧ ∀ j, j < dn c m cur → c j = false
  | 0, cur, h1, _, h3 => ⟨h1, Nat.le_refl _, fun j hj => h3 j (Nat.zero_le _) hj⟩
  | m + 1, cur, h1, h2, h3 => by
    unfold dn
    by_cases h : c m = true
    · rw [if_pos h]
      obtain ⟨a, b, d⟩ := dn_spec c m m h (by omega) (fun j _ _ => by omega)
      exact ⟨a, by omega, d⟩
    · rw [if_neg h]
      have hm : m < cur + 1 := by omega
      by_cases e : m = cur
      · subst e; exact absurd h1 h
      · exact dn_spec c m cur h1 (by omega) fun j hj hk => by
          by_cases e2 : j = m
          · subst e2; simpa using h
          · exact h3 j (by omega) hk
def leastN (c : Nat → Bool) (v : Nat) : Nat := dn c (v + 1) v
theorem leastN_spec {c : Nat → Bool} {v : Nat} (h : c v = true) : c (leastN c v) = true ∧ leastN c v ≤ v ∧ ∀ j, j < leastN c v → c j = false := dn_spec c (v + 1) v h (Nat.le_refl _) (fun j h1 h2 => by omega)
def mutB (a : TAuto) (v x : Nat) : Bool := (intoN a v).testBit x && (intoN a x).testBit v
def sccL (a : TAuto) (n : Nat) : List Int := (List.range n).map fun v => (leastN (mutB a v) v : Int)
theorem sccL_len (a : TAuto) (n : Nat) : (sccL a n).length = n := by simp [sccL]
theorem sccL_succ (a : TAuto) (n : Nat) : sccL a (n + 1) = sccL a n ++ [(leastN (mutB a n) n : Int)] := by simp [sccL, List.range_succ]
theorem specScc_in {a : TAuto} (h : AOk a) {v : Nat} (hv : v < a.states.toNat) : ∀ m cur, m ≤ v + 1 → loop (fun s : Int × Int => spec_AutoScc.b1 (intoL a) (v : Int) s.1 s.2) ((cur : Nat), (m : Int) - 1) = some ((dn (mutB a v) m cur : Nat) : Int)
  | 0, cur, _ => loop_end (by dsimp only; unfold spec_AutoScc.b1; rw [if_neg (by omega)]; rfl)
  | m + 1, cur, hm => by
    have h1 := h.sts
    have hmm : m < a.states.toNat := by omega
    have e1 : (((m + 1 : Nat) : Int) - 1) = (m : Int) := by omega
    have w1 : W ((m : Int) - 1) = (m : Int) - 1 := WE (by omega) (by omega)
    have ih := specScc_in h hv m (if mutB a v m = true then m else cur) (by omega)
    rw [e1, loop_go (s' := (((if mutB a v m = true then m else cur : Nat) : Int), (m : Int) - 1))]
    · rw [ih]; rfl
    · dsimp only
      unfold spec_AutoScc.b1
      have hl1 := lt31 (by omega) (intoN_lt h hv)
      have hl2 := lt31 (by omega) (intoN_lt h hmm)
      rw [if_pos (by omega), intoL_get hv, Option.bind_some, l1Has_eq hl1 (by omega), Option.bind_some, Int.toNat_natCast, w1]
      unfold mutB
      cases hb : (intoN a v).testBit m with
      | false =>
        rw [whenO_f, Option.bind_some, whenO_f, Option.bind_some, Bool.false_and, if_neg (by simp), Bool.false_and, if_neg (by simp)]
      | true =>
        rw [whenO_t, intoL_get hmm, Option.bind_some, whenO_t, l1Has_eq hl2 (by omega), Option.bind_some, Int.toNat_natCast, Bool.true_and]
        split <;> rfl
theorem specScc_eq {a : TAuto} (hok : autoOk a = true) : spec_AutoScc a = some (sccL a a.states.toNat) := by
  have h := autoOk_A hok
  have h1 := h.sts
  unfold spec_AutoScc
  rw [specAutoOk_eq, hok, Option.bind_some, if_neg (by simp), intoL_loop h (fun y x => rfl), Option.bind_some]
  unfold spec_AutoScc.k0
  have key := loop_up (body := fun s : List Int × Int => spec_AutoScc.b0 a (intoL a) s.1 s.2) a.states.toNat (fun k => (sccL a k, (k : Int))) (sccL a a.states.toNat) (fun k hk => ?_) ?_ 0 (Nat.zero_le _)
  · have e : loop (fun s : List Int × Int => spec_AutoScc.b0 a (intoL a) s.1 s.2) ([], 0) = some (sccL a a.states.toNat) := key
    rw [e]; rfl
  · dsimp only
    unfold spec_AutoScc.b0
    have hin := specScc_in h hk (k + 1) k (Nat.le_refl _)
    rw [show (((k + 1 : Nat) : Int) - 1) = (k : Int) by omega] at hin
    rw [if_pos (by omega), hin, Option.bind_some]
    unfold spec_AutoScc.k3 spec_AutoScc.k2
    rw [app_small (by rw [sccL_len]; simp; omega) (by omega), Option.bind_some, WS (by omega), sccL_succ]
    rfl
  · dsimp only
    unfold spec_AutoScc.b0
    rw [if_neg (by omega)]
theorem index_loop {xs : List Int} {x : Int} {r : Nat} (hl : xs.length ≤ 1000000) (hr : r < xs.length) (he : xs.getD r default = x) : ∀ d k, k + d = r → (∀ j, k ≤ j → j < r → xs.getD j default ≠ x) → loop (fun s : Int => slices_Index_int_int.b0 xs x s) (k : Int) = some (.inr (r : Int))
  | 0, k, hk, _ => by
    obtain rfl : k = r := by omega
    refine loop_end ?_
    unfold slices_Index_int_int.b0
    rw [if_pos (by omega), ix_nat hr, Option.bind_some, if_pos he.symm]
  | d + 1, k, hk, hn => by
    rw [loop_go (s' := ((k + 1 : Nat) : Int))]
    · exact index_loop hl hr he d (k + 1) (by omega) fun j h1 h2 => hn j (by omega) h2
    · unfold slices_Index_int_int.b0
      rw [if_pos (by omega), ix_nat (by omega), Option.bind_some, if_neg (fun e => hn k (Nat.le_refl _) (by omega) e.symm), WS (by omega)]
theorem index_eq {xs : List Int} {x : Int} {r : Nat} (hl : xs.length ≤ 1000000) (hr : r < xs.length) (he : xs.getD r default = x) (hn : ∀ j, j < r → xs.getD j default ≠ x) : slices_Index_int_int xs x = some (r : Int) := by
  unfold slices_Index_int_int
  have := index_loop hl hr he r 0 (by omega) fun j _ h2 => hn j h2
  rw [show ((0 : Nat) : Int) = 0 from rfl] at this
  rw [this]; rfl
theorem fillf_loop {α : Type} (z : α) (f : Nat → α) (n : Nat) {body : List α × Int → Option ((List α × Int) ⊕ List α)} (go : ∀ (k : Nat) (y : List α), k < n → y.length = n → body (y, (k : Int)) = some (.inl (y.set k (f k), ((k + 1 : Nat) : Int))))
    (fin : ∀ y : List α, y.length = n → body (y, (n : Int)) = some (.inr y)) : loop body (List.replicate n z, 0) = some ((List.range n).map f) := by
  have h1 := loop_up (body := body) n (fun k => ((List.range k).map f ++ List.replicate (n - k) z, (k : Int))) ((List.range n).map f) (fun k hk => ?_) ?_ 0 (Nat.zero_le _)
  · simpa using h1
  · rw [go k _ hk (by simp; omega), List.set_append_right _ _ (by simp), show n - k = (n - (k + 1)) + 1 by omega, List.replicate_succ, List.length_map, List.length_range, Nat.sub_self, List.set_cons_zero, List.range_succ, List.map_append]
    simp
  · have := fin ((List.range n).map f ++ List.replicate (n - n) z) (by simp)
    simpa using this
theorem implScc_eq {a : TAuto} (hok : autoOk a = true) : impl_AutoScc a = some (sccL a a.states.toNat) := by
  have h := autoOk_A hok
  have h1 := h.sts
  have hlen := buildG_len a.states.toNat (stepsA a)
  obtain ⟨out, ho, hR⟩ := autoRings h
  have hol := hR.len
  have hc : ∀ v j, v < a.states.toNat → j < a.states.toNat → (mutB a v j = true ↔ out.getD j default = out.getD v default) := by
    intro v j hv hj
    unfold mutB
    rw [Bool.and_eq_true, intoN_iff h hv, intoN_iff h hj, hR.iff j v (by omega) (by omega)]
    exact ⟨fun g => ⟨g.2, g.1⟩, fun g => ⟨g.2, g.1⟩⟩
  unfold impl_AutoScc
  rw [implAutoOk_eq, hok, Option.bind_some, if_neg (by simp), autoGraph_eq h, Option.bind_some, ho, Option.bind_some, mk_ok (by omega) (by omega), Option.bind_some]
  rw [fillf_loop (0 : Int) (fun v => (leastN (mutB a v) v : Int)) a.states.toNat (fun k y hk hy => ?_) (fun y hy => by unfold impl_AutoScc.b0; rw [if_neg (by dsimp only; omega)])]
  · rfl
  · unfold impl_AutoScc.b0
    obtain ⟨g1, g2, g3⟩ := leastN_spec (c := mutB a k) (v := k) ((hc k k hk hk).mpr rfl)
    rw [if_pos (by dsimp only; omega), ix_nat (by omega), Option.bind_some, index_eq (r := leastN (mutB a k) k) (by omega) (by omega) ((hc k _ hk (by omega)).mp g1) (fun j hj e => by
      have := g3 j hj
      rw [(hc k j hk (by omega)).mpr e] at this; cases this), Option.bind_some]
    dsimp only
    rw [ck_nat (by omega), Option.bind_some, WS (by omega)]
noncomputable def sccP (a : TAuto) : List Int := if autoOk a = true then sccL a a.states.toNat else []
theorem specScc (a : TAuto) : spec_AutoScc a = some (sccP a) := by
  unfold sccP
  by_cases h : autoOk a = true
  · rw [if_pos h, specScc_eq h]
  · rw [if_neg h]; unfold spec_AutoScc; rw [specAutoOk_eq, Option.bind_some, if_pos (by simpa using h)]
theorem implScc (a : TAuto) : impl_AutoScc a = some (sccP a) := by
  unfold sccP
  by_cases h : autoOk a = true
  · rw [if_pos h, implScc_eq h]
  · rw [if_neg h]; unfold impl_AutoScc; rw [implAutoOk_eq, Option.bind_some, if_pos (by simpa using h)]
theorem sccP_len (a : TAuto) : (sccP a).length ≤ 31 := by
  unfold sccP
  split
  · rename_i g; have := (autoOk_A g).sts; rw [sccL_len]; omega
  · simp
theorem pureAutoScc (a : TAuto) (w : TAuto.wf a) : laws_FnExactAutoScc a = some true := by
  obtain ⟨_, _, _, wl, _⟩ := w
  unfold laws_FnExactAutoScc
  by_cases hs : laws_szAuto a 1048576 < 0
  · rw [if_pos hs]
  · rw [if_neg hs]
    have hl : a.edges.length ≤ 1048576 := Classical.byContradiction fun g => hs ((szAuto_eq a wl).mpr g)
    have hr := sccP_len a
    have he := eqIntS_self (sccP a) (by omega)
    have hm := markI_eq (sccP a) (by omega)
    have hh := heldI_eq (sccP a) (by omega)
    simp only [toAuto_eq a hl, Option.bind_some, eqAuto_eq a hl, specScc, implScc, he, markAuto_eq a (by omega), hm, hh]
    simp only [bnd_eq, Bool.not_true, Bool.false_eq_true, if_false, Option.bind_some]
    rw [show (decide (((1 + 4 * a.edges.length : Nat) : Int) < 0)) = false by simp; omega, Bool.not_false, whenO_t, Option.bind_some]
    have hz : ¬ ((1 + (sccP a).length : Nat) : Int) < 0 := by omega
    simp only [hz, Bool.not_true, Bool.or_self, Bool.false_eq_true, if_false, Option.bind_some, ne_eq, not_true_eq_false]
end Go.Proofs.Ythdclobnmicdaaa
