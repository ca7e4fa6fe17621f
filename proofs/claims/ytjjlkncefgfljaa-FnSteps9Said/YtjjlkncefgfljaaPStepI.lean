/- What a formula's nodes say by a letter and what comes next, by the program. -/
import Derived.Test.YtjjlkncefgfljaaDSteps9
import Derived.Test.YtjjlkncefgfljaaPLtlOk
import Derived.Test.YtjjlkncefgfljaaPTempL
import Derived.Test.YtjjlkncefgfljaaPSo
import Derived.Test.YtjjlkncefgfljaaPHasI
namespace Go.Proofs.Ytjjlkncefgfljaa
open Go Go.RowKit E
set_option linter.unusedVariables false

/-- What a node says. -/
def stL (l s : Nat) : List TNode → List Bool → Nat → List Bool
  | [], acc, _ => acc
  | n :: r, acc, k => stL l s r (acc ++ [soV n acc l (s.testBit k)]) (if n.kind ≥ 7 then k + 1 else k)
theorem stL_len (l s : Nat) : ∀ (r : List TNode) (acc : List Bool) (k : Nat), (stL l s r acc k).length = acc.length + r.length
  | [], acc, k => rfl
  | n :: r, acc, k => by rw [stL, stL_len l s r]; simp; omega
theorem index_at {v : Int} : ∀ (a b pre : List Int), (∀ x ∈ a, x ≠ v) → pre.length + a.length + b.length ≤ 1000000 → loop (fun s : Int => slices_Index_int_int.b0 (pre ++ (a ++ v :: b)) v s) (pre.length : Int) = some (.inr ((pre.length + a.length : Nat) : Int))
  | [], b, pre, _, hl => loop_end (by unfold slices_Index_int_int.b0; rw [if_pos (by simp; omega), List.nil_append, ix_mid, Option.bind_some, if_pos rfl]; rfl)
  | x :: a, b, pre, h, hl => by
    have ih := index_at a b (pre ++ [x]) (fun y hy => h y (List.mem_cons_of_mem _ hy)) (by simp at hl ⊢; omega)
    have w4 : W ((pre.length : Int) + 1) = (((pre ++ [x]).length : Nat) : Int) := by rw [W, W_eq (by omega) (by omega)]; simp
    rw [loop_go (s' := (((pre ++ [x]).length : Nat) : Int))]
    · rw [List.append_assoc, List.singleton_append] at ih
      rw [List.cons_append, ih]
      simp; omega
    · unfold slices_Index_int_int.b0
      rw [if_pos (by simp; omega), List.cons_append, ix_mid, Option.bind_some, if_neg (fun e => h x List.mem_cons_self e.symm), w4]
theorem index_no {v : Int} : ∀ (a pre : List Int), (∀ x ∈ a, x ≠ v) → pre.length + a.length ≤ 1000000 → loop (fun s : Int => slices_Index_int_int.b0 (pre ++ a) v s) (pre.length : Int) = some (.inl ())
  | [], pre, _, hl => loop_end (by unfold slices_Index_int_int.b0; rw [if_neg (by simp)])
  | x :: a, pre, h, hl => by
    have ih := index_no a (pre ++ [x]) (fun y hy => h y (List.mem_cons_of_mem _ hy)) (by simp at hl ⊢; omega)
    have w4 : W ((pre.length : Int) + 1) = (((pre ++ [x]).length : Nat) : Int) := by rw [W, W_eq (by omega) (by omega)]; simp
    rw [loop_go (s' := (((pre ++ [x]).length : Nat) : Int))]
    · rw [List.append_assoc, List.singleton_append] at ih
      exact ih
    · unfold slices_Index_int_int.b0
      rw [if_pos (by simp; omega), ix_mid, Option.bind_some, if_neg (fun e => h x List.mem_cons_self e.symm), w4]
theorem tempL_app : ∀ (a b : List TNode) (k : Nat), tempL k (a ++ b) = tempL k a ++ tempL (k + a.length) b
  | [], b, k => by simp [tempL]
  | n :: a, b, k => by
    have e : k + 1 + a.length = k + (a.length + 1) := by omega
    simp only [List.cons_append, tempL, tempL_app a b (k + 1), List.length_cons, e]
    split <;> simp
theorem tempL_rng : ∀ (a : List TNode) (k : Nat), ∀ x ∈ tempL k a, (k : Int) ≤ x ∧ x < (k : Int) + a.length
  | [], k, x, h => by simp [tempL] at h
  | n :: a, k, x, h => by
    unfold tempL at h
    rw [List.length_cons]
    split at h
    · rcases List.mem_cons.mp h with rfl | h
      · omega
      · have := tempL_rng a (k + 1) x h; omega
    · have := tempL_rng a (k + 1) x h; omega
theorem index_temp {e pre r : List TNode} {n : TNode} (h : e = pre ++ n :: r) (hl : e.length ≤ 31) : slices_Index_int_int (tempL 0 e) (pre.length : Int) = some (if n.kind ≥ 7 then ((tempL 0 pre).length : Int) else -1) := by
  have hlen : pre.length + (r.length + 1) = e.length := by rw [h]; simp
  have l1 := tempL_len pre 0
  have l2 := tempL_len r (pre.length + 1)
  unfold slices_Index_int_int
  have e1 : tempL 0 e = tempL 0 pre ++ tempL pre.length (n :: r) := by rw [h, tempL_app, Nat.zero_add]
  by_cases c : n.kind ≥ 7
  · have e2 : tempL pre.length (n :: r) = (pre.length : Int) :: tempL (pre.length + 1) r := by simp [tempL, c]
    have := index_at (v := (pre.length : Int)) (tempL 0 pre) (tempL (pre.length + 1) r) [] (fun x hx => by have := tempL_rng pre 0 x hx; omega) (by simp; omega)
    rw [List.nil_append, List.length_nil, Nat.zero_add] at this
    rw [e1, e2, if_pos c]
    have h2 : loop (fun s : Int => slices_Index_int_int.b0 (tempL 0 pre ++ (pre.length : Int) :: tempL (pre.length + 1) r) (pre.length : Int) s) 0 = _ := this
    rw [h2]; rfl
  · have e2 : tempL pre.length (n :: r) = tempL (pre.length + 1) r := by simp [tempL, c]
    have := index_no (v := (pre.length : Int)) (tempL 0 pre ++ tempL (pre.length + 1) r) [] (fun x hx => by
      rcases List.mem_append.mp hx with hx | hx
      · have := tempL_rng pre 0 x hx; omega
      · have := tempL_rng r (pre.length + 1) x hx; omega) (by simp; omega)
    rw [List.nil_append] at this
    rw [e1, e2, if_neg c]
    have h2 : loop (fun s : Int => slices_Index_int_int.b0 (tempL 0 pre ++ tempL (pre.length + 1) r) (pre.length : Int) s) 0 = _ := this
    rw [h2]; rfl
theorem impl_loop {e : List TNode} (he : Nodes ltP e) {l s : Nat} (hl : l ≤ 7) (hs : s < 2 ^ 31) : ∀ (r pre : List TNode) (acc : List Bool) (k : Nat), e = pre ++ r → acc.length = pre.length → k = (tempL 0 pre).length →
    loop (fun q : List Bool × Int => impl_stepOf.b0 e (tempL 0 e) (l : Int) (s : Int) q.1 q.2) (acc ++ List.replicate r.length false, (pre.length : Int)) = some (stL l s r acc k)
  | [], pre, acc, k, h, ha, hk => loop_end (by dsimp only; unfold impl_stepOf.b0; rw [if_neg (by rw [h]; simp)]; simp [stL])
  | n :: r, pre, acc, k, h, ha, hk => by
    have hlen : pre.length + (r.length + 1) = e.length := by rw [h]; simp
    have h31 := he.2.1
    have l1 := tempL_len pre 0
    have hn : NodeAt ltP pre.length n := by
      have := he.2.2 pre.length (by omega)
      rw [h] at this; simpa using this
    have hkd := ltKinds hn
    have w4 : W ((pre.length : Int) + 1) = (((pre ++ [n]).length : Nat) : Int) := by rw [W, W_eq (by omega) (by omega)]; simp
    have hix : ix e (pre.length : Int) = some n := by rw [h]; exact ix_mid pre n r
    have hidx := index_temp h h31
    rw [← hk] at hidx
    have hlen2 : (acc ++ List.replicate (n :: r).length false).length = e.length := by simp; omega
    have gx : ∀ x : Int, 0 ≤ x → x < pre.length → ix (acc ++ List.replicate (n :: r).length false) x = some (acc.getD x.toNat default) := fun x h0 h1 => by
      rw [ix_ok h0 (by rw [hlen2]; omega), List.getD_eq_getElem?_getD, List.getElem?_append_left (by omega), ← List.getD_eq_getElem?_getD]
    have hso : ∀ nx : Bool, (n.kind ≥ 7 → nx = s.testBit k) → impl_soBy n (acc ++ List.replicate (n :: r).length false) (l : Int) nx = some (soV n acc l (s.testBit k)) := fun nx hnx => by
      unfold impl_soBy
      by_cases k7 : n.kind = 7
      · rw [if_pos k7, hnx (by omega)]; unfold soV; rw [if_neg (by omega), if_neg (by omega), if_neg (by omega), if_neg (by omega), if_neg (by omega), if_pos k7]
      rw [if_neg k7]
      by_cases k8 : n.kind = 8
      · rw [if_pos k8, gx _ (by omega) (by omega), Option.bind_some, hnx (by omega)]; unfold soV
        rw [if_neg (by omega), if_neg (by omega), if_neg (by omega), if_neg (by omega), if_neg (by omega), if_neg k7, if_pos k8]
        cases acc.getD n.b.toNat default with
        | false => rw [Bool.not_false, whenO_t, gx _ (by omega) (by omega)]; rfl
        | true => rfl
      rw [if_neg k8]
      by_cases k9 : n.kind = 9
      · rw [if_pos k9, gx _ (by omega) (by omega), Option.bind_some, hnx (by omega)]; unfold soV
        rw [if_neg (by omega), if_neg (by omega), if_neg (by omega), if_neg (by omega), if_neg (by omega), if_neg k7, if_neg k8, if_pos k9]
        cases acc.getD n.b.toNat default with
        | true => rw [whenO_t, gx _ (by omega) (by omega)]; rfl
        | false => rfl
      rw [if_neg k9]
      by_cases k10 : n.kind = 10
      · rw [if_pos k10, gx _ (by omega) (by omega), Option.bind_some, hnx (by omega)]; unfold soV
        rw [if_neg (by omega), if_neg (by omega), if_neg (by omega), if_neg (by omega), if_neg (by omega), if_neg k7, if_neg k8, if_neg k9, if_pos k10]
      rw [if_neg k10]
      by_cases k11 : n.kind = 11
      · rw [if_pos k11, gx _ (by omega) (by omega), Option.bind_some, hnx (by omega)]; unfold soV
        rw [if_neg (by omega), if_neg (by omega), if_neg (by omega), if_neg (by omega), if_neg (by omega), if_neg k7, if_neg k8, if_neg k9, if_neg k10, if_pos k11]
      rw [if_neg k11]
      unfold impl_plain soV
      by_cases k1 : n.kind = 1
      · rw [if_pos k1, if_pos k1]; rfl
      rw [if_neg k1, if_neg k1]
      by_cases k3 : n.kind = 3
      · rw [if_pos k3, if_pos k3, has_eq (by have : (2 : Nat) ^ 31 = 2147483648 := rfl; omega) (by omega)]; rfl
      rw [if_neg k3, if_neg k3]
      by_cases k4 : n.kind = 4
      · rw [if_pos k4, if_pos k4, gx _ (by omega) (by omega)]; rfl
      rw [if_neg k4, if_neg k4]
      by_cases k5 : n.kind = 5
      · rw [if_pos k5, if_pos k5, gx _ (by omega) (by omega), Option.bind_some]
        cases acc.getD n.a.toNat default with
        | true => rw [whenO_t, gx _ (by omega) (by omega)]; rfl
        | false => rfl
      rw [if_neg k5, if_neg k5]
      by_cases k6 : n.kind = 6
      · rw [if_pos k6, if_pos k6, gx _ (by omega) (by omega), Option.bind_some]
        cases acc.getD n.a.toNat default with
        | false => rw [Bool.not_false, whenO_t, gx _ (by omega) (by omega)]; rfl
        | true => rfl
      rw [if_neg k6, if_neg k6, if_neg k7, if_neg k8, if_neg k9, if_neg k10, if_neg k11]; rfl
    have e3 : (if n.kind ≥ 7 then k + 1 else k) = (tempL 0 (pre ++ [n])).length := by
      rw [tempL_app, List.length_append, ← hk]
      simp only [tempL]
      split <;> simp
    have ih := impl_loop he hl hs r (pre ++ [n]) (acc ++ [soV n acc l (s.testBit k)]) (if n.kind ≥ 7 then k + 1 else k) (by rw [h]; simp) (by simp [ha]) e3
    rw [loop_go (s' := (acc ++ [soV n acc l (s.testBit k)] ++ List.replicate r.length false, (((pre ++ [n]).length : Nat) : Int)))]
    · exact ih
    · dsimp only; unfold impl_stepOf.b0
      rw [if_pos (by omega), hix, Option.bind_some, hidx, Option.bind_some, bnd_eq]
      rw [hso _ (fun c => by
        rw [if_pos c, decide_eq_true (by omega : ((k : Nat) : Int) ≥ 0), Bool.true_and]
        have := has_eq hs (x := (k : Int)) (by omega)
        rw [Int.toNat_natCast] at this; exact this), Option.bind_some, ck_nat (by rw [hlen2]; omega), Option.bind_some, w4]
      rw [List.length_cons, List.replicate_succ, ← ha, set_mid]
      simp
noncomputable def ltStep (e : List TNode) (l s : Int) : List Bool := if treeOk ltP e = true ∧ (0 ≤ l ∧ l ≤ 7) ∧ 0 ≤ s ∧ s ≤ 2147483647 then stL l.toNat s.toNat e [] 0 else []
theorem implStep_eq (e : List TNode) (l s : Int) : impl_LtlStep e l s = some (ltStep e l s) := by
  unfold impl_LtlStep ltStep impl_isLetter impl_SetOk
  rw [bnd_eq, bnd_eq, inRange_eq, inRange_eq, implLtlOk_eq]
  by_cases h : treeOk ltP e = true ∧ (0 ≤ l ∧ l ≤ 7) ∧ 0 ≤ s ∧ s ≤ 2147483647
  · have hn := treeOk_nodes h.1
    have h31 := hn.2.1
    rw [if_pos h, h.1, decide_eq_true h.2.1, decide_eq_true h.2.2, Bool.not_true, Bool.or_self, Bool.not_false, whenO_t, Option.bind_some, if_neg (by simp)]
    unfold impl_stepOf impl_temporal
    have ht := temp_loop (body := fun s : List Int × Int => impl_temporal.b0 e s.1 s.2) e h31 (fun y x => rfl) e [] [] rfl (by simp)
    have ht2 : loop (fun s : List Int × Int => impl_temporal.b0 e s.1 s.2) ([], 0) = some (tempL 0 e) := ht
    rw [mk_ok (by omega) (by omega), Option.bind_some, ht2, Option.bind_some, Int.toNat_natCast]
    have h1 := impl_loop hn (l := l.toNat) (s := s.toNat) (by omega) (by have : (2 : Nat) ^ 31 = 2147483648 := rfl; omega) e [] [] 0 rfl rfl rfl
    rw [show ((l.toNat : Nat) : Int) = l by omega, show ((s.toNat : Nat) : Int) = s by omega] at h1
    have h2 : loop (fun q : List Bool × Int => impl_stepOf.b0 e (tempL 0 e) l s q.1 q.2) (List.replicate e.length false, 0) = _ := h1
    show ((loop (fun q : List Bool × Int => impl_stepOf.b0 e (tempL 0 e) l s q.1 q.2) (List.replicate e.length false, 0)).bind _).bind _ = _
    rw [h2]; rfl
  · rw [if_neg h]
    by_cases b : 0 ≤ l ∧ l ≤ 7
    · by_cases c : 0 ≤ s ∧ s ≤ 2147483647
      · have a : treeOk ltP e = false := by
          cases a : treeOk ltP e with
          | true => exact absurd ⟨a, b, c⟩ h
          | false => rfl
        rw [decide_eq_true b, decide_eq_true c, Bool.not_true, Bool.or_self, Bool.not_false, whenO_t, Option.bind_some, a, if_pos (by simp)]
      · rw [decide_eq_false c, Bool.not_false, Bool.or_true, Bool.not_true, whenO_f, Option.bind_some, if_pos (by simp)]
    · rw [decide_eq_false b, Bool.not_false, Bool.true_or, Bool.not_true, whenO_f, Option.bind_some, if_pos (by simp)]
end Go.Proofs.Ytjjlkncefgfljaa
