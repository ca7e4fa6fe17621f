/- The rows of a formula's table go on by steps. -/
import Derived.Test.YtjjlkncefgfljaaPLtlRows
namespace Go.Proofs.Ytjjlkncefgfljaa
open Go Go.RowKit E
set_option linter.unusedVariables false

def Mono (f : Nat → Bool → Bool) : Prop := ∀ p, f p false = true → f p true = true
theorem mono_idem {g : Bool → Bool} (h : g false = true → g true = true) (c : Bool) : g (g c) = g c := by
  cases h0 : g false <;> cases h1 : g true <;> cases c <;> simp_all
/-- From the last place down to k. -/
def downN (f : Nat → Bool → Bool) : Nat → Nat → Bool → Bool
  | 0, _, c => c
  | d + 1, k, c => f k (downN f d (k + 1) c)
theorem downN_mono {f : Nat → Bool → Bool} (h : Mono f) : ∀ d k, downN f d k false = true → downN f d k true = true
  | 0, k, g => rfl
  | d + 1, k, g => by
    unfold downN at g ⊢
    cases h0 : downN f d (k + 1) false with
    | true => rw [downN_mono h d (k + 1) h0]; rw [h0] at g; exact g
    | false =>
      rw [h0] at g
      cases downN f d (k + 1) true with
      | true => exact h k g
      | false => exact g
theorem getD_setB {xs : List Bool} {i j : Nat} {b : Bool} (hi : i < xs.length) : (xs.set i b).getD j default = if i = j then b else xs.getD j default := set_getB hi
/-- A pass: each place by the next one; the last one by what stood at s. -/
theorem pass_val {f : Nat → Bool → Bool} {nx : Nat → Nat} {n s : Nat} (hnx : ∀ k, k < n → nx k = if k + 1 = n then s else k + 1) (hs : s < n) (c : Bool) :
    ∀ (k : Nat) (r : List Bool), k ≤ n → r.length = n → (k = n → r.getD s default = c) → (∀ j, k ≤ j → j < n → r.getD j default = downN f (n - j) j c) → ∀ j, j < n → (passN f nx k r).getD j default = downN f (n - j) j c
  | 0, r, _, hr, _, hj => fun j hjn => hj j (Nat.zero_le _) hjn
  | k + 1, r, hk, hr, hc, hj => by
    rw [passN]
    refine pass_val hnx hs c k _ (by omega) (by simpa using hr) (fun e => by omega) fun j h1 h2 => ?_
    rw [getD_setB (by omega)]
    by_cases e : k = j
    · subst e
      rw [if_pos rfl, hnx k (by omega)]
      have e1 : n - k = (n - (k + 1)) + 1 := by omega
      rw [e1]
      show _ = f k (downN f (n - (k + 1)) (k + 1) c)
      congr 1
      by_cases e2 : k + 1 = n
      · rw [if_pos e2, hc e2, show n - (k + 1) = 0 by omega]; rfl
      · rw [if_neg e2]; exact hj (k + 1) (Nat.le_refl _) (by omega)
    · rw [if_neg e]; exact hj j (by omega) h2
theorem pass_all {f : Nat → Bool → Bool} {nx : Nat → Nat} {n s : Nat} (hnx : ∀ k, k < n → nx k = if k + 1 = n then s else k + 1) (hs : s < n) (r : List Bool) (hr : r.length = n) (j : Nat) (hj : j < n) : (passN f nx n r).getD j default = downN f (n - j) j (r.getD s default) :=
  pass_val hnx hs (r.getD s default) n r (Nat.le_refl _) hr (fun _ => rfl) (fun j h1 h2 => by omega) j hj
/-- After two passes each place is as it says by the next one. -/
theorem twice_step {f : Nat → Bool → Bool} {nx : Nat → Nat} {n s : Nat} (hnx : ∀ k, k < n → nx k = if k + 1 = n then s else k + 1) (hs : s < n) (hf : Mono f) (r : List Bool) (hr : r.length = n) (p : Nat) (hp : p < n) :
    (passN f nx n (passN f nx n r)).getD p default = f p ((passN f nx n (passN f nx n r)).getD (nx p) default) := by
  have h1 : (passN f nx n r).length = n := by rw [passN_len]; exact hr
  have key := pass_all (f := f) hnx hs (passN f nx n r) h1
  have hsv := pass_all (f := f) hnx hs r hr s hs
  have e1 : n - p = (n - (p + 1)) + 1 := by omega
  rw [key p hp, hnx p hp, hsv, e1]
  show f p _ = _
  congr 1
  by_cases e2 : p + 1 = n
  · rw [if_pos e2, key s hs, hsv, show n - (p + 1) = 0 by omega]
    show downN f (n - s) s (r.getD s default) = _
    exact (mono_idem (g := downN f (n - s) s) (downN_mono hf _ _) _).symm
  · rw [if_neg e2, key (p + 1) (by omega), hsv]
theorem cell_mono (n : TNode) (rows : List (List Bool)) (w : TWord) : Mono (cellN n rows w) := by
  intro p
  by_cases k7 : n.kind = 7
  · have e : cellN n rows w p false = cellN n rows w p true := by unfold cellN; rw [if_pos k7, if_pos k7]
    rw [e]; exact fun h => h
  · unfold cellN
    rw [if_neg k7, if_neg k7]
    unfold soV
    generalize (colAt rows p).getD n.a.toNat default = A
    generalize (colAt rows p).getD n.b.toNat default = B
    (repeat' split) <;> cases A <;> cases B <;> simp
theorem nx_if {w : TWord} (k : Nat) : nxN w k = if k + 1 = plN w then w.stem.length else k + 1 := rfl
theorem row_step {w : TWord} (hw : WOk w) (n : TNode) (rows : List (List Bool)) {p : Nat} (hp : p < plN w) : (rowN n rows w).getD p default = cellN n rows w p ((rowN n rows w).getD (nxN w p) default) := by
  unfold rowN
  exact twice_step (s := w.stem.length) (fun k _ => nx_if k) (by have := hw.one; unfold plN; omega) (cell_mono n rows w) _ (by simp [row0]) p hp
/-- A row depends on the rows ahead of it alone. -/
theorem soV_congr {n : TNode} {ts us : List Bool} {l : Nat} {b : Bool} (ha : 3 < n.kind → n.kind ≤ 11 → ts.getD n.a.toNat default = us.getD n.a.toNat default) (hb : (n.kind = 5 ∨ n.kind = 6 ∨ n.kind = 8 ∨ n.kind = 9) → ts.getD n.b.toNat default = us.getD n.b.toNat default) : soV n ts l b = soV n us l b := by
  unfold soV
  by_cases k1 : n.kind = 1
  · rw [if_pos k1, if_pos k1]
  by_cases k3 : n.kind = 3
  · rw [if_neg k1, if_neg k1, if_pos k3, if_pos k3]
  by_cases k4 : n.kind = 4
  · rw [if_neg k1, if_neg k1, if_neg k3, if_neg k3, if_pos k4, if_pos k4, ha (by omega) (by omega)]
  by_cases k5 : n.kind = 5
  · rw [if_neg k1, if_neg k1, if_neg k3, if_neg k3, if_neg k4, if_neg k4, if_pos k5, if_pos k5, ha (by omega) (by omega), hb (by omega)]
  by_cases k6 : n.kind = 6
  · rw [if_neg k1, if_neg k1, if_neg k3, if_neg k3, if_neg k4, if_neg k4, if_neg k5, if_neg k5, if_pos k6, if_pos k6, ha (by omega) (by omega), hb (by omega)]
  by_cases k7 : n.kind = 7
  · rw [if_neg k1, if_neg k1, if_neg k3, if_neg k3, if_neg k4, if_neg k4, if_neg k5, if_neg k5, if_neg k6, if_neg k6, if_pos k7, if_pos k7]
  by_cases k8 : n.kind = 8
  · rw [if_neg k1, if_neg k1, if_neg k3, if_neg k3, if_neg k4, if_neg k4, if_neg k5, if_neg k5, if_neg k6, if_neg k6, if_neg k7, if_neg k7, if_pos k8, if_pos k8, ha (by omega) (by omega), hb (by omega)]
  by_cases k9 : n.kind = 9
  · rw [if_neg k1, if_neg k1, if_neg k3, if_neg k3, if_neg k4, if_neg k4, if_neg k5, if_neg k5, if_neg k6, if_neg k6, if_neg k7, if_neg k7, if_neg k8, if_neg k8, if_pos k9, if_pos k9, ha (by omega) (by omega), hb (by omega)]
  by_cases k10 : n.kind = 10
  · rw [if_neg k1, if_neg k1, if_neg k3, if_neg k3, if_neg k4, if_neg k4, if_neg k5, if_neg k5, if_neg k6, if_neg k6, if_neg k7, if_neg k7, if_neg k8, if_neg k8, if_neg k9, if_neg k9, if_pos k10, if_pos k10, ha (by omega) (by omega)]
  by_cases k11 : n.kind = 11
  · rw [if_neg k1, if_neg k1, if_neg k3, if_neg k3, if_neg k4, if_neg k4, if_neg k5, if_neg k5, if_neg k6, if_neg k6, if_neg k7, if_neg k7, if_neg k8, if_neg k8, if_neg k9, if_neg k9, if_neg k10, if_neg k10, if_pos k11, if_pos k11, ha (by omega) (by omega)]
  · rw [if_neg k1, if_neg k1, if_neg k3, if_neg k3, if_neg k4, if_neg k4, if_neg k5, if_neg k5, if_neg k6, if_neg k6, if_neg k7, if_neg k7, if_neg k8, if_neg k8, if_neg k9, if_neg k9, if_neg k10, if_neg k10, if_neg k11, if_neg k11]
/-- The parts of a node that are asked lie ahead of it. -/
theorem node_parts {i : Nat} {n : TNode} (hn : NodeAt ltP i n) : (3 < n.kind → n.kind ≤ 11 → 0 ≤ n.a ∧ n.a.toNat < i) ∧ ((n.kind = 5 ∨ n.kind = 6 ∨ n.kind = 8 ∨ n.kind = 9) → 0 ≤ n.b ∧ n.b.toNat < i) := by
  have := ltKinds hn
  constructor
  · intro h1 h2; omega
  · intro h1; omega
theorem tab_get {w : TWord} {e : List TNode} {i : Nat} (hi : i < e.length) : (tabN w e).getD i default = rowN (e.getD i default) (accum (fun n rows => rowN n rows w) [] (e.take i)) w := by
  unfold tabN; exact accum_get _ default e hi
theorem tab_ahead {w : TWord} {e : List TNode} {i j : Nat} (hi : i ≤ e.length) (hj : j < i) : (accum (fun n rows => rowN n rows w) [] (e.take i)).getD j default = (tabN w e).getD j default := by
  unfold tabN; exact accum_take _ default e hi hj
theorem col_get {rows : List (List Bool)} {p i : Nat} : (colAt rows p).getD i default = (rows.getD i default).getD p default := by
  by_cases h : i < rows.length
  · exact colAt_get h
  · unfold colAt
    have h1 : (rows.map fun r => r.getD p default)[i]? = none := List.getElem?_eq_none (by simpa using h)
    have h2 : rows[i]? = none := List.getElem?_eq_none (by omega)
    rw [List.getD_eq_getElem?_getD, h1, List.getD_eq_getElem?_getD (l := rows), h2]; rfl
theorem cell_congr {n : TNode} {i : Nat} (hn : NodeAt ltP i n) {rs us : List (List Bool)} (h : ∀ j, j < i → rs.getD j default = us.getD j default) (w : TWord) (p : Nat) (b : Bool) : cellN n rs w p b = cellN n us w p b := by
  obtain ⟨g1, g2⟩ := node_parts hn
  unfold cellN
  have e7 : (if n.kind = 7 then (rs.getD n.a.toNat default).getD (nxN w p) default else b) = (if n.kind = 7 then (us.getD n.a.toNat default).getD (nxN w p) default else b) := by
    split
    · rw [h _ (g1 (by omega) (by omega)).2]
    · rfl
  rw [e7]
  refine soV_congr (fun k1 k2 => ?_) fun k1 => ?_
  · rw [col_get, col_get, h _ (g1 k1 k2).2]
  · rw [col_get, col_get, h _ (g2 k1).2]
/-- What a node's row says at a place, by the column there and what is so next. -/
theorem tab_step {w : TWord} (hw : WOk w) {e : List TNode} (he : Nodes ltP e) {i p : Nat} (hi : i < e.length) (hp : p < plN w) :
    ((tabN w e).getD i default).getD p default = cellN (e.getD i default) (tabN w e) w p (((tabN w e).getD i default).getD (nxN w p) default) := by
  have h1 := row_step hw (e.getD i default) (accum (fun n rows => rowN n rows w) [] (e.take i)) hp
  rw [← tab_get hi] at h1
  rw [h1]
  exact cell_congr (he.2.2 i hi) (fun j hj => tab_ahead (by omega) hj) w p _
theorem tabRow_len {w : TWord} {e : List TNode} {i : Nat} (hi : i < e.length) : ((tabN w e).getD i default).length = plN w := by rw [tab_get hi, rowN_len]
end Go.Proofs.Ytjjlkncefgfljaa
