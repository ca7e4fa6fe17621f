/- The contracts of some of the program's functions: A8. -/
import Derived.Test.YtcmlckgdhnffmaaA7
import Derived.Test.YtcmlckgdhnffmaaT1
import Derived.Test.YtcmlckgdhnffmaaE14
import Derived.Test.YtcmlckgdhnffmaaProg
namespace Go.Proofs.Ytcmlckgdhnffmaa
open Go Go.RowKit E
set_option linter.unusedVariables false

def setListL (s : Int) : List Int := if 0 ≤ s ∧ s ≤ 2147483647 then ((List.range 31).filter (hasB s)).map fun (i : Nat) => (i : Int) else []
def setUp (s : Int) (i : Nat) : List Int := ((List.range i).filter (hasB s)).map fun (i : Nat) => (i : Int)
theorem setUp_len (s : Int) (i : Nat) : (setUp s i).length ≤ i := by
  unfold setUp; rw [List.length_map]; exact Nat.le_trans (List.length_filter_le _ _) (by simp)
theorem setUp_yes {s : Int} {i : Nat} (h : hasB s i = true) : setUp s i ++ [(i : Int)] = setUp s (i + 1) := by simp [setUp, List.range_succ, List.filter_append, h]
theorem setUp_no {s : Int} {i : Nat} (h : hasB s i = false) : setUp s i = setUp s (i + 1) := by simp [setUp, List.range_succ, List.filter_append, h]
def mxUp (z w : List Int) (i : Nat) : List Int := (mxL z w).take i ++ z.drop i
theorem mxUp_0 (z w : List Int) : mxUp z w 0 = z := by simp [mxUp]
theorem mxUp_end {z w : List Int} (h : z.length = w.length) : mxUp z w z.length = mxL z w := by
  unfold mxUp; rw [List.take_of_length_le (by rw [mx_len h]; omega), List.drop_of_length_le (by omega), List.append_nil]
theorem mxUp_len {z w : List Int} (h : z.length = w.length) {i : Nat} (hi : i ≤ z.length) : (mxUp z w i).length = z.length := by simp [mxUp, mx_len h]; omega
theorem mxUp_get {z w : List Int} (h : z.length = w.length) {i : Nat} (hi : i < z.length) : (mxUp z w i).getD i 0 = z.getD i 0 := by
  have h1 : ((mxL z w).take i).length = i := by simp [mx_len h]; omega
  simp [mxUp, List.getD, List.getElem?_append_right (by omega : ((mxL z w).take i).length ≤ i), h1, mx_len h, show min i z.length = i by omega]
theorem mxUp_step {z w : List Int} (h : z.length = w.length) {i : Nat} (hi : i < z.length) {v : Int} (hv : v = max ((mxUp z w i).getD i 0) (w.getD i 0)) : (mxUp z w i).set i v = mxUp z w (i + 1) := by
  have h1 : ((mxL z w).take i).length = i := by simp [mx_len h]; omega
  have h2 : i < (mxL z w).length := by rw [mx_len h]; exact hi
  rw [mxUp_get h hi, ← mx_get h] at hv
  subst hv
  unfold mxUp
  rw [List.set_append_right _ _ (by omega), h1, Nat.sub_self, List.drop_eq_getElem_cons hi, List.set_cons_zero, List.take_succ_eq_append_getElem h2, List.append_assoc]
  simp [List.getD, List.getElem?_eq_getElem h2]
theorem max2 (a b : Int) : (if b > a then b else a) = max a b := by split <;> omega

def hitQ (m : Nat) (Z W : List Int) (p q : Nat) : Prop := (p = q ∨ 0 < ent m Z p q) ∧ ent m W q q = 2
def hitP (m : Nat) (x Z W : List Int) (i p : Nat) : Prop := 0 < ent m x i p ∧ ∃ q, q < m ∧ hitQ m Z W p q
def hitS (m : Nat) (x Z W : List Int) (i : Nat) : Prop := ∃ p, p < m ∧ hitP m x Z W i p
open Classical in
noncomputable def takesB (m : Nat) (s : Int) (x y : List Int) : Bool := decide (∃ i, i < m ∧ hasB s i = true ∧ hitS m x (iterL m y m) (loop2 m y) i)
open Classical in
theorem takes_yes {m : Nat} {s : Int} {x y : List Int} {i : Nat} (h : i < m) (k : hasB s i = true) (g : hitS m x (iterL m y m) (loop2 m y) i) : true = takesB m s x y := by
  unfold takesB; symm; exact decide_eq_true ⟨i, h, k, g⟩
open Classical in
theorem takes_no {m : Nat} {s : Int} {x y : List Int} (h : ∀ i, i < m → hasB s i = true → ¬ hitS m x (iterL m y m) (loop2 m y) i) : false = takesB m s x y := by
  unfold takesB; symm; exact decide_eq_false (fun ⟨i, h1, h2, h3⟩ => h i h1 h2 h3)
/-- At rest the same is hit. -/
theorem hit_rest {m K : Nat} {x y : List Int} (hy : Bx m y) (h : iterL m y (K + 1) = iterL m y K) {i : Nat} : hitS m x (iterL m y K) (iterL m y K) i ↔ hitS m x (iterL m y m) (loop2 m y) i := by
  unfold hitS hitP hitQ
  constructor
  · rintro ⟨p, hp, h1, q, hq, h2, h3⟩
    have := rest_iff hy h hp hq
    exact ⟨p, hp, h1, q, hq, h2.imp id this.1.mp, this.2.mp h3⟩
  · rintro ⟨p, hp, h1, q, hq, h2, h3⟩
    have := rest_iff hy h hp hq
    exact ⟨p, hp, h1, q, hq, h2.imp id this.1.mpr, this.2.mpr h3⟩
theorem setList_of {m : Nat} {s : Int} (hs : 0 ≤ s ∧ s < ((2 ^ m : Nat) : Int)) (hm : m ≤ 4) {j : Nat} (hj : j < (setListL s).length) : ∃ i : Nat, i < m ∧ hasB s i = true ∧ (setListL s).getD j 0 = (i : Int) := by
  have hM : 0 ≤ s ∧ s ≤ 2147483647 := by
    have : (2 : Nat) ^ m ≤ 2 ^ 4 := Nat.pow_le_pow_right (by omega) hm
    omega
  unfold setListL at hj ⊢
  rw [if_pos hM] at hj ⊢
  rw [List.length_map] at hj
  have key : ∀ i0 : Nat, hasB s i0 = true → i0 < m := fun i0 hb => by
    refine Nat.lt_of_not_le fun hle => ?_
    unfold hasB at hb
    have h2 := Nat.pow_le_pow_right (show 0 < 2 by omega) hle
    rw [Nat.testBit_lt_two_pow (by omega)] at hb
    cases hb
  have hmem := List.getElem_mem hj
  rw [List.mem_filter] at hmem
  exact ⟨_, key _ hmem.2, hmem.2, by simp [hj]⟩
theorem setList_has {s : Int} (hs : 0 ≤ s ∧ s ≤ 2147483647) {i : Nat} (hi : i < 31) (hb : hasB s i = true) : ∃ j, j < (setListL s).length ∧ (setListL s).getD j 0 = (i : Int) := by
  have : (i : Int) ∈ setListL s := by
    unfold setListL; rw [if_pos hs, List.mem_map]; exact ⟨i, List.mem_filter.mpr ⟨List.mem_range.mpr hi, hb⟩, rfl⟩
  obtain ⟨j, hj, he⟩ := List.getElem_of_mem this
  exact ⟨j, hj, by simp [hj, he]⟩
theorem setListL_len (s : Int) : (setListL s).length ≤ 31 := by
  unfold setListL; split
  · exact setUp_len s 31
  · simp

def lpL (m : Nat) (y : List Int) : Nat → List Int
  | 0 => iterL m y m
  | k + 1 => mxL (lpL m y k) (boxMulL m (lpL m y k) (iterL m y m))
theorem lpL_bx {m : Nat} {y : List Int} (hy : Bx m y) : ∀ k, Bx m (lpL m y k)
  | 0 => iter_bx hy m
  | k + 1 => mx_bx (lpL_bx hy k) (mul_bx (lpL_bx hy k) (iter_bx hy m))

noncomputable def boxTakesF (a : AutoD) (x y : List Int) : Bool := autoOk a && (boxOk a.n x && (boxOk a.n y && takesB a.n.toNat a.s x y))
theorem boxOk_bx {m : Nat} {x : List Int} (h : boxOk m x = true) : Bx m x := by
  unfold boxOk at h
  simp only [Bool.and_eq_true, decide_eq_true_eq] at h
  obtain ⟨⟨h1, h2⟩, h3⟩ := h
  refine ⟨by have := (mm4 (m := m) (by omega)).1; omega, fun i => ?_⟩
  by_cases hi : i < x.length
  · have := all_getD.mp h3 i hi
    simpa using this
  · simp [List.getD, List.getElem?_eq_none (by omega : x.length ≤ i)]
theorem tF0 {a : AutoD} {x y : List Int} (h : autoOk a = false) : false = boxTakesF a x y := by unfold boxTakesF; rw [h]; rfl
theorem tF1 {a : AutoD} {x y : List Int} (h : ¬ (autoOk a = true ∧ 1 ≤ a.n ∧ a.n ≤ 4)) : false = boxTakesF a x y := by
  unfold boxTakesF
  cases ha : autoOk a with
  | false => rfl
  | true => rw [← boxOk_n (n := a.n) (xs := x) (fun k => h ⟨ha, k⟩)]; rfl
theorem tF2 {a : AutoD} {x y : List Int} (h : boxOk a.n x = false) : false = boxTakesF a x y := by unfold boxTakesF; rw [h]; simp
theorem tF3 {a : AutoD} {x y : List Int} (h : boxOk a.n y = false) : false = boxTakesF a x y := by unfold boxTakesF; rw [h]; simp
theorem tF4 {a : AutoD} {x y : List Int} {b : Bool} (h1 : autoOk a = true) (h2 : boxOk a.n x = true) (h3 : boxOk a.n y = true) (h : takesB a.n.toNat a.s x y = b) : b = boxTakesF a x y := by unfold boxTakesF; rw [h1, h2, h3, h]; rfl

theorem und_22 : Try.prog.underlying 22 = some (.slice 3) := by kernel_rfl
theorem call_105 : callable Try.prog 105 = true := by kernel_rfl
theorem call_113 : callable Try.prog 113 = true := by kernel_rfl
theorem call_114 : callable Try.prog 114 = true := by kernel_rfl
theorem call_94 : callable Try.prog 94 = true := by kernel_rfl
theorem call_76 : callable Try.prog 76 = true := by kernel_rfl
theorem call_47 : callable Try.prog 47 = true := by kernel_rfl
theorem call_29 : callable Try.prog 29 = true := by kernel_rfl
set_option maxRecDepth 10000 in
theorem slices_Clone_int_int (xs : List Int) (hn : xs ≠ []) (hl : xs.length ≤ 1048576) : PO Try.prog 105 [ints xs] 1 (xs.map (AV.int .i64)) := by
  refine HC.enter Try.func105 rfl Try.ntmps105 (by simp) ?_
  all_goals (refine AWP.seqR rfl ?_)
  all_goals (first | (refine ASL.light rfl rfl (opAssign (v := .list _ _) rfl rfl) ?_) | (refine ASL.light rfl rfl (opAssign (v := .slc _ _ _ _) rfl rfl) ?_) | (refine ASL.light rfl rfl (opAssign (v := .nil) rfl rfl) ?_))
  all_goals (refine ASL.done ?_)
  all_goals (refine AWP.seq ?_)
  all_goals (refine AWP.seqR rfl ?_)
  all_goals (first | (refine ASL.light rfl rfl (opMove (v := .list _ _) rfl rfl) ?_) | (refine ASL.light rfl rfl (opMove (v := .slc _ _ _ _) rfl rfl) ?_) | (refine ASL.light rfl rfl (opMove (v := .nil) rfl rfl) ?_))
  all_goals (refine ASL.light rfl rfl (opIsNil rfl und_22 rfl rfl (by simpa using hn) rfl) ?_)
  all_goals (refine ASL.done ?_)
  all_goals (first
    | (
      refine AWP.condT rfl ?_
      all_goals (refine AWP.seqR rfl ?_)
      all_goals (first | (refine ASL.light rfl rfl (opAssign (v := .list _ _) rfl rfl) ?_) | (refine ASL.light rfl rfl (opAssign (v := .slc _ _ _ _) rfl rfl) ?_) | (refine ASL.light rfl rfl (opAssign (v := .nil) rfl rfl) ?_))
      all_goals (refine ASL.done ?_)
      all_goals (refine AWP.ret ?_)
      all_goals (repeat with_reducible refine QThen.ret1 ?_)
      all_goals (exact QRet.one rfl rfl (by have h := hO7; rw [List.nil_append] at h; exact h)))
    | (
      refine AWP.condF rfl ?_
      all_goals (refine AWP.skip ?_)
      all_goals (refine AWP.seqR rfl ?_)
      all_goals (refine ASL.heavy1 rfl rfl (opBuildSlice (xs := List.map (AV.int .i64) []) rfl elemA_22 sizeA_3 zeroA_3 rfl rfl rfl rfl (by simp [cells]) (by decide) ?_); rintro v5 G5 hO5 hK5 hN5 -)
      all_goals (first | (refine ASL.light rfl rfl (opMove (v := v5) rfl rfl) ?_) | (refine ASL.light rfl rfl (opMove (v := .list _ _) rfl rfl) ?_) | (refine ASL.light rfl rfl (opMove (v := .slc _ _ _ _) rfl rfl) ?_) | (refine ASL.light rfl rfl (opMove (v := .nil) rfl rfl) ?_))
      all_goals (first | (refine ASL.heavy1 rfl rfl (opAppend1 (f := AV.int .i64) rfl elemA_22 rfl sizeA_3 bytesA_3 zeroA_3 rfl rfl rfl rfl (by assumption) (by first | omega | (simp; omega)) (by first | omega | (simp; omega)) ?_); rintro v7 G7 hO7 hB7 hN7) | (refine ASL.heavy1 rfl rfl (opAppendL (f := AV.int .i64) rfl elemA_22 rfl sizeA_3 bytesA_3 zeroA_3 rfl rfl rfl (fun _ => rfl) (by assumption) (by first | omega | (simp; omega)) (by first | omega | (simp; omega)) ?_); rintro v7 G7 hO7 hB7 hN7))
      all_goals (first | (refine ASL.light rfl rfl (opAssign (v := v7) rfl rfl) ?_) | (refine ASL.light rfl rfl (opAssign (v := v5) rfl rfl) ?_) | (refine ASL.light rfl rfl (opAssign (v := .list _ _) rfl rfl) ?_) | (refine ASL.light rfl rfl (opAssign (v := .slc _ _ _ _) rfl rfl) ?_) | (refine ASL.light rfl rfl (opAssign (v := .nil) rfl rfl) ?_))
      all_goals (refine ASL.done ?_)
      all_goals (refine AWP.ret ?_)
      all_goals (repeat with_reducible refine QThen.ret1 ?_)
      all_goals (exact QRet.one rfl rfl (by have h := hO7; rw [List.nil_append] at h; exact h))))

set_option maxRecDepth 10000 in
theorem slices_Equal_int_int (xs ys : List Int) (hl : xs.length ≤ 1048576) : PC Try.prog 113 [ints xs, ints ys] (fun v => v = .bool (decide (xs = ys))) := by
  refine PC.enter Try.func113 rfl Try.ntmps113 (by simp) ?_
  all_goals (refine AWP.seqR rfl ?_)
  all_goals (refine ASL.light rfl rfl (opAssign (v := .bool _) rfl rfl) ?_)
  all_goals (refine ASL.done ?_)
  all_goals (refine AWP.seq ?_)
  all_goals (refine AWP.seqR rfl ?_)
  all_goals (first | (refine ASL.light rfl rfl (opMove (v := .list _ _) rfl rfl) ?_) | (refine ASL.light rfl rfl (opMove (v := .slc _ _ _ _) rfl rfl) ?_) | (refine ASL.light rfl rfl (opMove (v := .nil) rfl rfl) ?_))
  all_goals (first | (refine ASL.light rfl rfl (opLenMap rfl rfl rfl lenT_22 rfl) ?_) | (refine ASL.light rfl rfl (opLenOf rfl rfl rfl lenT_22 rfl rfl) ?_))
  all_goals (first | (refine ASL.light rfl rfl (opMove (v := .list _ _) rfl rfl) ?_) | (refine ASL.light rfl rfl (opMove (v := .slc _ _ _ _) rfl rfl) ?_) | (refine ASL.light rfl rfl (opMove (v := .nil) rfl rfl) ?_))
  all_goals (first | (refine ASL.light rfl rfl (opLenMap rfl rfl rfl lenT_22 rfl) ?_) | (refine ASL.light rfl rfl (opLenOf rfl rfl rfl lenT_22 rfl rfl) ?_))
  all_goals (refine ASL.dec rfl rfl (opInt rfl rfl rfl rfl) ?_ ?_ <;> intro h10)
  all_goals (refine ASL.done ?_)
  all_goals (first
    | (
      refine AWP.condT rfl ?_
      all_goals (refine AWP.seqR rfl ?_)
      all_goals (refine ASL.light rfl rfl (opAssign (v := .bool _) rfl rfl) ?_)
      all_goals (refine ASL.done ?_)
      all_goals (refine AWP.ret ?_)
      all_goals (repeat with_reducible refine QThen.ret1 ?_)
      all_goals (exact QRet.bool rfl rfl rfl (by first | exact eqL_len (by omega) | exact eqL_at (i := i) (by omega) (by omega) (by omega) | exact eqL_all (i := i) (by omega) (by omega) hI0.2)))
    | (
      refine AWP.condF rfl ?_
      all_goals (refine AWP.skip ?_)
      all_goals (refine AWP.seq ?_)
      all_goals (refine AWP.seqR rfl ?_)
      all_goals (first | (refine ASL.light rfl rfl (opMove (v := .list _ _) rfl rfl) ?_) | (refine ASL.light rfl rfl (opMove (v := .slc _ _ _ _) rfl rfl) ?_) | (refine ASL.light rfl rfl (opMove (v := .nil) rfl rfl) ?_))
      all_goals (first | (refine ASL.light rfl rfl (opLenMap rfl rfl rfl lenT_22 rfl) ?_) | (refine ASL.light rfl rfl (opLenOf rfl rfl rfl lenT_22 rfl rfl) ?_))
      all_goals (refine ASL.light rfl rfl (opMove (v := .int _ _) rfl rfl) ?_)
      all_goals (refine ASL.done ?_)
      all_goals (refine AWP.block ?_)
      all_goals (refine AWP.loopL (α := Nat) (fun i => [(0, ints xs), (1, ints ys), (11, ints xs), (12, .int .i64 xs.length), (13, .int .i64 i)]) (fun i G => G = fun _ => none) (fun i => xs.length - i) (fun i => i ≤ xs.length ∧ eqTo xs ys i) 0 ⟨by omega, eqTo0 _ _⟩ ⟨rfl, rfl, rfl, rfl, rfl, trivial⟩ rfl ?_)
      rintro i G0 hI0 rfl
      all_goals (refine AWP.seqR rfl ?_)
      all_goals (refine ASL.dec rfl rfl (opInt rfl rfl rfl rfl) ?_ ?_ <;> intro h14)
      all_goals (refine ASL.done ?_)
      all_goals (refine AWP.seq ?_)
      all_goals (first
        | (
          refine AWP.condF rfl ?_
          all_goals (refine AWP.exit ?_))
        | (
          refine AWP.condT rfl ?_
          all_goals (refine AWP.skip ?_)
          all_goals (refine AWP.seq ?_)
          all_goals (refine AWP.block ?_)
          all_goals (refine AWP.seqR rfl ?_)
          all_goals (refine ASL.light rfl rfl (opMove (v := .int _ _) rfl rfl) ?_)
          all_goals (refine ASL.light rfl rfl (opAssign (v := .int _ _) rfl rfl) ?_)
          all_goals (refine ASL.done ?_)
          all_goals (refine AWP.seqD [(0, false), (1, false), (2, false), (3, false), (4, false), (5, false), (6, false), (7, false), (8, false)] mixed (by kernel_rfl) rfl ?_)
          all_goals (first | (refine ARL.light0 rfl rfl rfl (opMove (v := .list _ _) rfl rfl) ?_) | (refine ARL.light0 rfl rfl rfl (opMove (v := .slc _ _ _ _) rfl rfl) ?_) | (refine ARL.light0 rfl rfl rfl (opMove (v := .nil) rfl rfl) ?_))
          all_goals (refine ARL.light0 rfl rfl rfl (opMove (v := .int _ _) rfl rfl) ?_)
          all_goals (first | (refine ARL.light0 rfl rfl rfl (opIndexIN rfl rfl rfl elemA_22 sizeA_3 (by omega)) ?_) | (refine ARL.light0 rfl rfl rfl (opIndexI rfl rfl rfl elemA_22 sizeA_3 (by omega) (by omega)) ?_) | (refine ARL.light0 rfl rfl rfl (opIndexN rfl rfl rfl elemA_22 sizeA_3 (by omega) rfl) ?_) | (refine ARL.light0 rfl rfl rfl (opIndexMap rfl rfl rfl elemA_22 sizeA_3 (by omega) (by omega) rfl) ?_) | (refine ARL.light0 rfl rfl rfl (opIndexAddrN rfl rfl rfl elemA_22 sizeA_3 (by omega)) ?_) | (refine ARL.light0 rfl rfl rfl (opIndexAddr rfl rfl rfl elemA_22 sizeA_3 (by omega) (by omega) rfl) ?_))
          all_goals (first | (refine ARL.light0 rfl rfl rfl (opLoadR (v := .int _ _) rfl aggA_3 rfl rfl) ?_) | (refine ARL.light rfl rfl rfl (opLoadOwnI rfl aggA_3 rfl (by assumption) (by first | omega | (simp; omega))) (by intro b_ hb_; rw [List.mem_singleton.mp hb_]; exact Own.alive (by assumption) (by first | omega | (simp; omega))) ?_))
          all_goals (first | (refine ARL.light0 rfl rfl rfl (opMove (v := .list _ _) rfl rfl) ?_) | (refine ARL.light0 rfl rfl rfl (opMove (v := .slc _ _ _ _) rfl rfl) ?_) | (refine ARL.light0 rfl rfl rfl (opMove (v := .nil) rfl rfl) ?_))
          all_goals (refine ARL.light0 rfl rfl rfl (opMove (v := .int _ _) rfl rfl) ?_)
          all_goals (first | (refine ARL.light0 rfl rfl rfl (opIndexIN rfl rfl rfl elemA_22 sizeA_3 (by omega)) ?_) | (refine ARL.light0 rfl rfl rfl (opIndexI rfl rfl rfl elemA_22 sizeA_3 (by omega) (by omega)) ?_) | (refine ARL.light0 rfl rfl rfl (opIndexN rfl rfl rfl elemA_22 sizeA_3 (by omega) rfl) ?_) | (refine ARL.light0 rfl rfl rfl (opIndexMap rfl rfl rfl elemA_22 sizeA_3 (by omega) (by omega) rfl) ?_) | (refine ARL.light0 rfl rfl rfl (opIndexAddrN rfl rfl rfl elemA_22 sizeA_3 (by omega)) ?_) | (refine ARL.light0 rfl rfl rfl (opIndexAddr rfl rfl rfl elemA_22 sizeA_3 (by omega) (by omega) rfl) ?_))
          all_goals (first | (refine ARL.light0 rfl rfl rfl (opLoadR (v := .int _ _) rfl aggA_3 rfl rfl) ?_) | (refine ARL.light rfl rfl rfl (opLoadOwnI rfl aggA_3 rfl (by assumption) (by first | omega | (simp; omega))) (by intro b_ hb_; rw [List.mem_singleton.mp hb_]; exact Own.alive (by assumption) (by first | omega | (simp; omega))) ?_))
          all_goals (refine ARL.dec rfl rfl rfl (opInt rfl rfl rfl rfl) ?_ ?_ <;> intro h24)
          all_goals (refine ARL.done ?_)
          all_goals (first
            | (
              refine AWP.condT rfl ?_
              all_goals (refine AWP.seqR rfl ?_)
              all_goals (refine ASL.light rfl rfl (opAssign (v := .bool _) rfl rfl) ?_)
              all_goals (refine ASL.done ?_)
              all_goals (refine AWP.ret ?_)
              all_goals (repeat with_reducible refine QThen.ret1 ?_)
              all_goals (exact QRet.bool rfl rfl rfl (by first | exact eqL_len (by omega) | exact eqL_at (i := i) (by omega) (by omega) (by omega) | exact eqL_all (i := i) (by omega) (by omega) hI0.2)))
            | (
              refine AWP.condF rfl ?_
              all_goals (refine AWP.skip ?_)))
          all_goals (refine AWP.lastR rfl ?_)
          all_goals (first | (refine ASL.light rfl rfl (opAdd rfl rfl rfl (by omega)) ?_) | (refine ASL.light rfl rfl (opInt rfl rfl rfl rfl) ?_))
          all_goals (refine ASL.light rfl rfl (opMove (v := .int _ _) rfl rfl) ?_)
          all_goals (refine ASL.done ?_)
          all_goals (exact ⟨i + 1, ⟨by omega, eqTo1 hI0.2 (by omega)⟩, by omega, ⟨rfl, rfl, rfl, rfl, rfl, trivial⟩, rfl⟩)))
      all_goals (refine AWP.seqR rfl ?_)
      all_goals (refine ASL.light rfl rfl (opAssign (v := .bool _) rfl rfl) ?_)
      all_goals (refine ASL.done ?_)
      all_goals (refine AWP.ret ?_)
      all_goals (repeat with_reducible refine QThen.ret1 ?_)
      all_goals (exact QRet.bool rfl rfl rfl (by first | exact eqL_len (by omega) | exact eqL_at (i := i) (by omega) (by omega) (by omega) | exact eqL_all (i := i) (by omega) (by omega) hI0.2))))

set_option maxRecDepth 10000 in
theorem impl_SetList (s : Int) : PO Try.prog 114 [.int .i64 s] 1 ((setListL s).map (AV.int .i64)) := by
  refine HC.enter Try.func114 rfl Try.ntmps114 (by simp) ?_
  all_goals (refine AWP.seqR rfl ?_)
  all_goals (first | (refine ASL.light rfl rfl (opAssign (v := v) rfl rfl) ?_) | (refine ASL.light rfl rfl (opAssign (v := .list _ _) rfl rfl) ?_) | (refine ASL.light rfl rfl (opAssign (v := .slc _ _ _ _) rfl rfl) ?_) | (refine ASL.light rfl rfl (opAssign (v := .nil) rfl rfl) ?_))
  all_goals (refine ASL.done ?_)
  all_goals (refine AWP.seq ?_)
  all_goals (refine AWP.seqR rfl ?_)
  all_goals (refine ASL.light rfl rfl (opMove (v := .int _ _) rfl rfl) ?_)
  all_goals (first | (refine ASL.callD rfl rfl rfl rfl call_81 (impl_SetOk _) rfl ?_ ?_ <;> intro h6) | (refine ASL.callRD rfl rfl rfl rfl call_81 (by exact ⟨by first | exact RA.same _ | exact RA.own (by assumption), trivial⟩) (impl_SetOk _) ?_ ?_ <;> intro h6))
  all_goals (refine ASL.light rfl rfl (opNot rfl rfl) ?_)
  all_goals (refine ASL.done ?_)
  all_goals (first
    | (
      refine AWP.condT rfl ?_
      all_goals (refine AWP.seqR rfl ?_)
      all_goals (first | (refine ASL.light rfl rfl (opAssign (v := v) rfl rfl) ?_) | (refine ASL.light rfl rfl (opAssign (v := .list _ _) rfl rfl) ?_) | (refine ASL.light rfl rfl (opAssign (v := .slc _ _ _ _) rfl rfl) ?_) | (refine ASL.light rfl rfl (opAssign (v := .nil) rfl rfl) ?_))
      all_goals (refine ASL.done ?_)
      all_goals (refine AWP.ret ?_)
      all_goals (repeat with_reducible refine QThen.ret1 ?_)
      all_goals (refine QRet.one rfl rfl ?_; first | (unfold setListL; rw [if_neg (by assumption)]; exact Own.nil _ _) | (unfold setListL; rw [if_pos (by assumption)]; have h := hO0; rw [show i = 31 by omega] at h; exact h)))
    | (
      refine AWP.condF rfl ?_
      all_goals (refine AWP.skip ?_)
      all_goals (refine AWP.seqR rfl ?_)
      all_goals (first | (refine ASL.light rfl rfl (opAssign (v := v) rfl rfl) ?_) | (refine ASL.light rfl rfl (opAssign (v := .list _ _) rfl rfl) ?_) | (refine ASL.light rfl rfl (opAssign (v := .slc _ _ _ _) rfl rfl) ?_) | (refine ASL.light rfl rfl (opAssign (v := .nil) rfl rfl) ?_))
      all_goals (refine ASL.done ?_)
      all_goals (refine AWP.seq ?_)
      all_goals (refine AWP.seqR rfl ?_)
      all_goals (refine ASL.light rfl rfl (opMove (v := .int _ _) rfl rfl) ?_)
      all_goals (refine ASL.done ?_)
      all_goals (refine AWP.block ?_)
      all_goals (refine AWP.loopL (α := Nat × AV) (fun p => [(0, .int .i64 s), (3, p.2), (8, .int .i64 p.1)]) (fun p G => Own 1 G p.2 ((setUp s p.1).map (AV.int .i64))) (fun p => 31 - p.1) (fun p => p.1 ≤ 31) (0, .nil) (by simp) ⟨rfl, rfl, rfl, trivial⟩ (Own.nil _ _) ?_)
      rintro ⟨i, v⟩ G0 hI0 hO0; dsimp only at hI0 hO0 ⊢
      all_goals (refine AWP.seqR rfl ?_)
      all_goals (refine ASL.dec rfl rfl (opInt rfl rfl rfl rfl) ?_ ?_ <;> intro h9)
      all_goals (refine ASL.done ?_)
      all_goals (refine AWP.seq ?_)
      all_goals (first
        | (
          refine AWP.condF rfl ?_
          all_goals (refine AWP.exit ?_))
        | (
          refine AWP.condT rfl ?_
          all_goals (refine AWP.skip ?_)
          all_goals (refine AWP.seq ?_)
          all_goals (refine AWP.block ?_)
          all_goals (refine AWP.seqR rfl ?_)
          all_goals (refine ASL.light rfl rfl (opMove (v := .int _ _) rfl rfl) ?_)
          all_goals (refine ASL.light rfl rfl (opAssign (v := .int _ _) rfl rfl) ?_)
          all_goals (refine ASL.done ?_)
          all_goals (refine AWP.seqR rfl ?_)
          all_goals (refine ASL.light rfl rfl (opMove (v := .int _ _) rfl rfl) ?_)
          all_goals (refine ASL.light rfl rfl (opMove (v := .int _ _) rfl rfl) ?_)
          all_goals (first | (refine ASL.callB rfl rfl rfl rfl call_89 (impl_has _ _ (by first | omega | (have := setUp_len s i; omega)) (by first | omega | (have := setUp_len s i; omega))) rfl ?_ ?_ <;> intro h13) | (refine ASL.callRB rfl rfl rfl rfl call_89 (by exact ⟨by first | exact RA.same _ | exact RA.own (by assumption), by first | exact RA.same _ | exact RA.own (by assumption), trivial⟩) (impl_has _ _ (by first | omega | (have := setUp_len s i; omega)) (by first | omega | (have := setUp_len s i; omega))) ?_ ?_ <;> intro h13))
          all_goals (refine ASL.done ?_)
          all_goals (first
            | (
              refine AWP.condF rfl ?_
              all_goals (refine AWP.skip ?_))
            | (
              refine AWP.condT rfl ?_
              all_goals (refine AWP.lastR rfl ?_)
              all_goals (first | (refine ASL.light rfl rfl (opMove (v := v) rfl rfl) ?_) | (refine ASL.light rfl rfl (opMove (v := .list _ _) rfl rfl) ?_) | (refine ASL.light rfl rfl (opMove (v := .slc _ _ _ _) rfl rfl) ?_) | (refine ASL.light rfl rfl (opMove (v := .nil) rfl rfl) ?_))
              all_goals (refine ASL.light rfl rfl (opMove (v := .int _ _) rfl rfl) ?_)
              all_goals (refine ASL.heavy1 rfl rfl (opBuildSliceI (xs := [.int _ _]) rfl elemA_22 sizeA_3 zeroA_3 rfl rfl rfl rfl (by simp [cells]) (by decide) ?_))
              all_goals (first | (refine ASL.heavy1 rfl rfl (opAppend1 (f := AV.int .i64) rfl elemA_22 rfl sizeA_3 bytesA_3 zeroA_3 rfl rfl rfl rfl (by assumption) (by first | omega | (have := setUp_len s i; omega)) (by first | omega | (have := setUp_len s i; omega)) ?_); rintro v17 G17 hO17 hB17 hN17) | (refine ASL.heavy1 rfl rfl (opAppendL (f := AV.int .i64) rfl elemA_22 rfl sizeA_3 bytesA_3 zeroA_3 rfl rfl rfl (fun _ => rfl) (by assumption) (by first | omega | (have := setUp_len s i; omega)) (by first | omega | (have := setUp_len s i; omega)) ?_); rintro v17 G17 hO17 hB17 hN17))
              all_goals (first | (refine ASL.light rfl rfl (opAssign (v := v17) rfl rfl) ?_) | (refine ASL.light rfl rfl (opAssign (v := v) rfl rfl) ?_) | (refine ASL.light rfl rfl (opAssign (v := .list _ _) rfl rfl) ?_) | (refine ASL.light rfl rfl (opAssign (v := .slc _ _ _ _) rfl rfl) ?_) | (refine ASL.light rfl rfl (opAssign (v := .nil) rfl rfl) ?_))
              all_goals (refine ASL.done ?_)))
          all_goals (refine AWP.lastR rfl ?_)
          all_goals (first | (refine ASL.light rfl rfl (opAdd rfl rfl rfl (by first | omega | (have := setUp_len s i; omega))) ?_) | (refine ASL.light rfl rfl (opInt rfl rfl rfl rfl) ?_))
          all_goals (refine ASL.light rfl rfl (opMove (v := .int _ _) rfl rfl) ?_)
          all_goals (refine ASL.done ?_)
          all_goals (first | exact ⟨(i + 1, v17), by dsimp only; omega, by dsimp only; omega, ⟨rfl, rfl, rfl, trivial⟩, by have h := hO17; rw [setUp_yes (by assumption)] at h; exact h⟩ | exact ⟨(i + 1, v), by dsimp only; omega, by dsimp only; omega, ⟨rfl, rfl, rfl, trivial⟩, by rw [← setUp_no (by assumption)]; exact hO0⟩)))
      all_goals (refine AWP.seqR rfl ?_)
      all_goals (first | (refine ASL.light rfl rfl (opMove (v := v17) rfl rfl) ?_) | (refine ASL.light rfl rfl (opMove (v := v) rfl rfl) ?_) | (refine ASL.light rfl rfl (opMove (v := .list _ _) rfl rfl) ?_) | (refine ASL.light rfl rfl (opMove (v := .slc _ _ _ _) rfl rfl) ?_) | (refine ASL.light rfl rfl (opMove (v := .nil) rfl rfl) ?_))
      all_goals (first | (refine ASL.light rfl rfl (opAssign (v := v17) rfl rfl) ?_) | (refine ASL.light rfl rfl (opAssign (v := v) rfl rfl) ?_) | (refine ASL.light rfl rfl (opAssign (v := .list _ _) rfl rfl) ?_) | (refine ASL.light rfl rfl (opAssign (v := .slc _ _ _ _) rfl rfl) ?_) | (refine ASL.light rfl rfl (opAssign (v := .nil) rfl rfl) ?_))
      all_goals (refine ASL.done ?_)
      all_goals (refine AWP.ret ?_)
      all_goals (repeat with_reducible refine QThen.ret1 ?_)
      all_goals (refine QRet.one rfl rfl ?_; first | (unfold setListL; rw [if_neg (by assumption)]; exact Own.nil _ _) | (unfold setListL; rw [if_pos (by assumption)]; have h := hO0; rw [show i = 31 by omega] at h; exact h))))

set_option maxRecDepth 10000 in
theorem impl_boxTakes (l s : Int) (m : Nat) (es : List EdgeD) (x y : List Int) (hb : 1 ≤ m ∧ m ≤ 4) (hs : 0 ≤ s ∧ s < ((2 ^ m : Nat) : Int)) (hx : Bx m x) (hy : Bx m y) : PC Try.prog 76 [autoA ⟨l, m, s, es⟩, ints x, ints y] (fun v => v = .bool (takesB m s x y)) := by
  refine PC.enter Try.func76 rfl Try.ntmps76 (by simp) ?_
  obtain ⟨hm1, hm2, hm3, hm4, hm5⟩ := mm4 hb; have hx1 := hx.1; have hy1 := hy.1
  all_goals (refine AWP.seqR rfl ?_)
  all_goals (refine ASL.boxI rfl rfl rfl rfl rfl ?_)
  all_goals (refine ASL.light rfl rfl (opAssign (v := .bool _) rfl rfl) ?_)
  all_goals (refine ASL.done ?_)
  all_goals (refine AWP.seqR rfl ?_)
  all_goals (first | (refine ASL.light rfl rfl (opFieldAddrR rfl fieldA_35_1 rfl rfl) ?_) | (refine ASL.light rfl rfl (opFieldAddr rfl fieldA_35_1 rfl rfl) ?_))
  all_goals (first | (refine ASL.light rfl rfl (opLoadR (v := .int _ _) rfl aggA_3 rfl rfl) ?_) | (refine ASL.light rfl rfl (opLoadRowI rfl aggA_3 rfl (by assumption) (by first | omega | (simp; omega))) ?_) | (refine ASL.light rfl rfl (opLoadOwnI rfl aggA_3 rfl (by assumption) (by first | first | omega | (simp; omega) | (simp; first | omega | (simp; omega)))) ?_))
  all_goals (refine ASL.light rfl rfl (opAssign (v := .int _ _) rfl rfl) ?_)
  all_goals (refine ASL.done ?_)
  all_goals (refine AWP.seqR rfl ?_)
  all_goals (first | (refine ASL.light rfl rfl (opMove (v := v20) rfl rfl) ?_) | (refine ASL.light rfl rfl (opMove (v := .list _ _) rfl rfl) ?_) | (refine ASL.light rfl rfl (opMove (v := .slc _ _ _ _) rfl rfl) ?_) | (refine ASL.light rfl rfl (opMove (v := .nil) rfl rfl) ?_))
  all_goals (first | (refine ASL.light rfl rfl (opAssign (v := v20) rfl rfl) ?_) | (refine ASL.light rfl rfl (opAssign (v := .list _ _) rfl rfl) ?_) | (refine ASL.light rfl rfl (opAssign (v := .slc _ _ _ _) rfl rfl) ?_) | (refine ASL.light rfl rfl (opAssign (v := .nil) rfl rfl) ?_))
  all_goals (refine ASL.done ?_)
  all_goals (refine AWP.seq ?_)
  all_goals (refine AWP.block ?_)
  all_goals (refine AWP.loopL (α := Nat) (fun K => [(1, ints x), (2, ints y), (3, .rptr [.int .i64 l, .int .i64 m, .int .i64 s, .list 4 (es.map edgeA)]), (7, .int .i64 m), (8, ints (iterL m y K))]) (fun K G => G = fun _ => none) (fun K => (2 * ((m * m : Nat) : Int) - sumL (iterL m y K)).toNat) (fun K => True) 0 trivial ⟨rfl, rfl, rfl, rfl, rfl, trivial⟩ rfl ?_)
  rintro K G0 hI0 rfl
  all_goals (refine AWP.block ?_)
  all_goals (refine AWP.seqR rfl ?_)
  all_goals (first | (refine ASL.light rfl rfl (opMove (v := v20) rfl rfl) ?_) | (refine ASL.light rfl rfl (opMove (v := .list _ _) rfl rfl) ?_) | (refine ASL.light rfl rfl (opMove (v := .slc _ _ _ _) rfl rfl) ?_) | (refine ASL.light rfl rfl (opMove (v := .nil) rfl rfl) ?_))
  all_goals (have hz0 := iter_bx hy K; have hz1 := hz0.1; refine ASL.callO rfl rfl rfl rfl call_105 (slices_Clone_int_int _ (by intro k; rw [k] at hz1; simp at hz1; omega) (by omega)) rfl ?_; rintro v20 G20 hO20 hK20 hN20)
  all_goals (first | (refine ASL.light rfl rfl (opAssign (v := v20) rfl rfl) ?_) | (refine ASL.light rfl rfl (opAssign (v := .list _ _) rfl rfl) ?_) | (refine ASL.light rfl rfl (opAssign (v := .slc _ _ _ _) rfl rfl) ?_) | (refine ASL.light rfl rfl (opAssign (v := .nil) rfl rfl) ?_))
  all_goals (refine ASL.done ?_)
  all_goals (refine AWP.seq ?_)
  all_goals (refine AWP.seqR rfl ?_)
  all_goals (refine ASL.light rfl rfl (opMove (v := .int _ _) rfl rfl) ?_)
  all_goals (first | (refine ASL.light rfl rfl (opMove (v := v20) rfl rfl) ?_) | (refine ASL.light rfl rfl (opMove (v := .list _ _) rfl rfl) ?_) | (refine ASL.light rfl rfl (opMove (v := .slc _ _ _ _) rfl rfl) ?_) | (refine ASL.light rfl rfl (opMove (v := .nil) rfl rfl) ?_))
  all_goals (first | (refine ASL.light rfl rfl (opMove (v := v20) rfl rfl) ?_) | (refine ASL.light rfl rfl (opMove (v := .list _ _) rfl rfl) ?_) | (refine ASL.light rfl rfl (opMove (v := .slc _ _ _ _) rfl rfl) ?_) | (refine ASL.light rfl rfl (opMove (v := .nil) rfl rfl) ?_))
  all_goals (refine ASL.callP rfl rfl rfl rfl call_68 (PO.list (impl_boxMul m _ _ hb hz1 hy.1 (fun i => (hz0.2 i).1) (fun i => (hy.2 i).1))) rfl ?_; rintro _ rfl)
  all_goals (first | (refine ASL.light rfl rfl (opLenOwn rfl rfl rfl lenT_22 rfl (by assumption)) ?_) | (refine ASL.light rfl rfl (opLenMap rfl rfl rfl lenT_22 rfl) ?_) | (refine ASL.light rfl rfl (opLenOf rfl rfl rfl lenT_22 rfl rfl) ?_))
  all_goals (refine ASL.light rfl rfl (opMove (v := .int _ _) rfl rfl) ?_)
  all_goals (refine ASL.done ?_)
  all_goals (refine AWP.block ?_)
  all_goals (refine AWP.loopL (α := Nat) (fun i => [(1, ints x), (2, ints y), (3, .rptr [.int .i64 l, .int .i64 m, .int .i64 s, .list 4 (es.map edgeA)]), (7, .int .i64 m), (8, ints (iterL m y K)), (9, v20), (24, ints (boxMulL m (iterL m y K) y)), (25, .int .i64 (boxMulL m (iterL m y K) y).length), (26, .int .i64 i)]) (fun i G => Own 1 G v20 ((mxUp (iterL m y K) (boxMulL m (iterL m y K) y) i).map (AV.int .i64))) (fun i => m * m - i) (fun i => i ≤ m * m) 0 (by omega) ⟨rfl, rfl, rfl, rfl, rfl, rfl, rfl, rfl, rfl, trivial⟩ (by rw [mxUp_0]; exact hO20) ?_)
  rintro i1 G1 hI1 hO1
  have hwl := boxMulL_len m (iterL m y K) y; have hul := mxUp_len (z := (iterL m y K)) (w := (boxMulL m (iterL m y K) y)) (by rw [hz1, hwl]) (i := i1) (by omega)
  all_goals (refine AWP.seqR rfl ?_)
  all_goals (refine ASL.dec rfl rfl (opInt rfl rfl rfl rfl) ?_ ?_ <;> intro h27)
  all_goals (refine ASL.done ?_)
  all_goals (refine AWP.seq ?_)
  all_goals (first
    | (
      refine AWP.condF rfl ?_
      all_goals (refine AWP.exit ?_))
    | (
      refine AWP.condT rfl ?_
      all_goals (refine AWP.skip ?_)
      all_goals (refine AWP.seq ?_)
      all_goals (refine AWP.block ?_)
      all_goals (refine AWP.seqR rfl ?_)
      all_goals (refine ASL.light rfl rfl (opMove (v := .int _ _) rfl rfl) ?_)
      all_goals (first | (refine ASL.light rfl rfl (opIndexOwn rfl elemA_22 sizeA_3 rfl (by assumption) rfl (by first | omega | (simp; omega))) ?_) | (refine ASL.light rfl rfl (opIndexOwnI rfl elemA_22 sizeA_3 rfl (by assumption) rfl (by first | omega | (simp; omega)) (by first | omega | (simp; omega))) ?_) | (refine ASL.light rfl rfl (opIndexIN rfl rfl rfl elemA_22 sizeA_3 (by first | omega | (simp; omega))) ?_) | (refine ASL.light rfl rfl (opIndexI rfl rfl rfl elemA_22 sizeA_3 (by first | omega | (simp; omega)) (by first | omega | (simp; omega))) ?_) | (refine ASL.light rfl rfl (opIndexN rfl rfl rfl elemA_22 sizeA_3 (by first | omega | (simp; omega)) rfl) ?_) | (refine ASL.light rfl rfl (opIndexMap rfl rfl rfl elemA_22 sizeA_3 (by first | omega | (simp; omega)) (by first | omega | (simp; omega)) rfl) ?_) | (refine ASL.light rfl rfl (opIndexAddrN rfl rfl rfl elemA_22 sizeA_3 (by first | omega | (simp; omega))) ?_) | (refine ASL.light rfl rfl (opIndexAddr rfl rfl rfl elemA_22 sizeA_3 (by first | omega | (simp; omega)) (by first | omega | (simp; omega)) rfl) ?_))
      all_goals (first | (refine ASL.light rfl rfl (opLoadR (v := .int _ _) rfl aggA_3 rfl rfl) ?_) | (refine ASL.light rfl rfl (opLoadRowI rfl aggA_3 rfl (by assumption) (by first | omega | (simp; omega))) ?_) | (refine ASL.light rfl rfl (opLoadOwnI rfl aggA_3 rfl (by assumption) (by first | first | omega | (simp; omega) | (simp; first | omega | (simp; omega)))) ?_))
      all_goals (refine ASL.light rfl rfl (opAssign (v := .int _ _) rfl rfl) ?_)
      all_goals (refine ASL.light rfl rfl (opAssign (v := .int _ _) rfl rfl) ?_)
      all_goals (refine ASL.done ?_)
      all_goals (refine AWP.lastR rfl ?_)
      all_goals (first | (refine ASL.light rfl rfl (opMove (v := v20) rfl rfl) ?_) | (refine ASL.light rfl rfl (opMove (v := .list _ _) rfl rfl) ?_) | (refine ASL.light rfl rfl (opMove (v := .slc _ _ _ _) rfl rfl) ?_) | (refine ASL.light rfl rfl (opMove (v := .nil) rfl rfl) ?_))
      all_goals (refine ASL.light rfl rfl (opMove (v := .int _ _) rfl rfl) ?_)
      all_goals (first | (refine ASL.light rfl rfl (opMove (v := v20) rfl rfl) ?_) | (refine ASL.light rfl rfl (opMove (v := .list _ _) rfl rfl) ?_) | (refine ASL.light rfl rfl (opMove (v := .slc _ _ _ _) rfl rfl) ?_) | (refine ASL.light rfl rfl (opMove (v := .nil) rfl rfl) ?_))
      all_goals (refine ASL.light rfl rfl (opMove (v := .int _ _) rfl rfl) ?_)
      all_goals (first | (refine ASL.light rfl rfl (opIndexOwn rfl elemA_22 sizeA_3 rfl (by assumption) rfl (by first | omega | (simp; omega))) ?_) | (refine ASL.light rfl rfl (opIndexOwnI rfl elemA_22 sizeA_3 rfl (by assumption) rfl (by first | omega | (simp; omega)) (by first | omega | (simp; omega))) ?_) | (refine ASL.light rfl rfl (opIndexIN rfl rfl rfl elemA_22 sizeA_3 (by first | omega | (simp; omega))) ?_) | (refine ASL.light rfl rfl (opIndexI rfl rfl rfl elemA_22 sizeA_3 (by first | omega | (simp; omega)) (by first | omega | (simp; omega))) ?_) | (refine ASL.light rfl rfl (opIndexN rfl rfl rfl elemA_22 sizeA_3 (by first | omega | (simp; omega)) rfl) ?_) | (refine ASL.light rfl rfl (opIndexMap rfl rfl rfl elemA_22 sizeA_3 (by first | omega | (simp; omega)) (by first | omega | (simp; omega)) rfl) ?_) | (refine ASL.light rfl rfl (opIndexAddrN rfl rfl rfl elemA_22 sizeA_3 (by first | omega | (simp; omega))) ?_) | (refine ASL.light rfl rfl (opIndexAddr rfl rfl rfl elemA_22 sizeA_3 (by first | omega | (simp; omega)) (by first | omega | (simp; omega)) rfl) ?_))
      all_goals (first | (refine ASL.light rfl rfl (opLoadR (v := .int _ _) rfl aggA_3 rfl rfl) ?_) | (refine ASL.light rfl rfl (opLoadRowI rfl aggA_3 rfl (by assumption) (by first | omega | (simp; omega))) ?_) | (refine ASL.light rfl rfl (opLoadOwnI rfl aggA_3 rfl (by assumption) (by first | first | omega | (simp; omega) | (simp; first | omega | (simp; omega)))) ?_))
      all_goals (refine ASL.light rfl rfl (opMove (v := .int _ _) rfl rfl) ?_)
      all_goals (refine ASL.light rfl rfl (opMax (k := .i64) (ns := [_, _]) rfl rfl rfl rfl) ?_)
      all_goals (first | (refine ASL.light rfl rfl (opIndexOwn rfl elemA_22 sizeA_3 rfl (by assumption) rfl (by first | omega | (simp; omega))) ?_) | (refine ASL.light rfl rfl (opIndexOwnI rfl elemA_22 sizeA_3 rfl (by assumption) rfl (by first | omega | (simp; omega)) (by first | omega | (simp; omega))) ?_) | (refine ASL.light rfl rfl (opIndexIN rfl rfl rfl elemA_22 sizeA_3 (by first | omega | (simp; omega))) ?_) | (refine ASL.light rfl rfl (opIndexI rfl rfl rfl elemA_22 sizeA_3 (by first | omega | (simp; omega)) (by first | omega | (simp; omega))) ?_) | (refine ASL.light rfl rfl (opIndexN rfl rfl rfl elemA_22 sizeA_3 (by first | omega | (simp; omega)) rfl) ?_) | (refine ASL.light rfl rfl (opIndexMap rfl rfl rfl elemA_22 sizeA_3 (by first | omega | (simp; omega)) (by first | omega | (simp; omega)) rfl) ?_) | (refine ASL.light rfl rfl (opIndexAddrN rfl rfl rfl elemA_22 sizeA_3 (by first | omega | (simp; omega))) ?_) | (refine ASL.light rfl rfl (opIndexAddr rfl rfl rfl elemA_22 sizeA_3 (by first | omega | (simp; omega)) (by first | omega | (simp; omega)) rfl) ?_))
      all_goals (first | (refine ASL.store rfl rfl (opStoreRowI rfl sizeA_3 rfl rfl (by assumption) (by first | first | omega | (simp; omega) | (simp; first | omega | (simp; omega))) ?_); rintro Gs1 hOs1 hBs1) | (refine ASL.store rfl rfl (opStoreOwnI rfl sizeA_3 rfl rfl (by assumption) (by first | first | omega | (simp; omega) | (simp; first | omega | (simp; omega))) ?_); rintro Gs1 hOs1 hBs1))
      all_goals (refine ASL.done ?_)
      all_goals (refine AWP.lastR rfl ?_)
      all_goals (first | (refine ASL.light rfl rfl (opAdd rfl rfl rfl (by first | omega | (simp; omega))) ?_) | (refine ASL.light rfl rfl (opInt rfl rfl rfl rfl) ?_))
      all_goals (refine ASL.light rfl rfl (opMove (v := .int _ _) rfl rfl) ?_)
      all_goals (refine ASL.done ?_)
      all_goals (exact ⟨i1 + 1, by omega, by omega, ⟨rfl, rfl, rfl, rfl, rfl, rfl, rfl, rfl, rfl, trivial⟩, by have h : Own 1 Gs1 v20 (((mxUp (iterL m y K) (boxMulL m (iterL m y K) y) i1).set i1 (max ((mxUp (iterL m y K) (boxMulL m (iterL m y K) y) i1).getD i1 0) (List.getD (boxMulL m (iterL m y K) y) i1 0))).map (AV.int .i64)) := (by rw [← max2]; exact hOs1); rw [mxUp_step (by rw [hz1, hwl]) (by omega) rfl] at h; exact h⟩)))
  all_goals (refine AWP.seq ?_)
  all_goals (have hi1e : mxUp (iterL m y K) (boxMulL m (iterL m y K) y) i1 = mxL (iterL m y K) (boxMulL m (iterL m y K) y) := (by rw [show i1 = (iterL m y K).length by omega]; exact mxUp_end (by rw [hz1, hwl])))
  all_goals (refine AWP.seqR rfl ?_)
  all_goals (first | (refine ASL.light rfl rfl (opMove (v := v20) rfl rfl) ?_) | (refine ASL.light rfl rfl (opMove (v := .list _ _) rfl rfl) ?_) | (refine ASL.light rfl rfl (opMove (v := .slc _ _ _ _) rfl rfl) ?_) | (refine ASL.light rfl rfl (opMove (v := .nil) rfl rfl) ?_))
  all_goals (first | (refine ASL.light rfl rfl (opMove (v := v20) rfl rfl) ?_) | (refine ASL.light rfl rfl (opMove (v := .list _ _) rfl rfl) ?_) | (refine ASL.light rfl rfl (opMove (v := .slc _ _ _ _) rfl rfl) ?_) | (refine ASL.light rfl rfl (opMove (v := .nil) rfl rfl) ?_))
  all_goals (first | (refine ASL.callD rfl rfl rfl rfl call_113 (slices_Equal_int_int _ _ (by first | omega | (simp; omega))) rfl ?_ ?_ <;> intro h43) | (refine ASL.callRD rfl rfl rfl rfl call_113 (by exact ⟨by first | exact RA.same _ | exact RA.own (by assumption), by first | exact RA.same _ | exact RA.own (by assumption), trivial⟩) (slices_Equal_int_int _ _ (by first | omega | (simp; omega))) ?_ ?_ <;> intro h43))
  all_goals (refine ASL.done ?_)
  all_goals (first
    | (
      refine AWP.condT rfl ?_
      all_goals (refine AWP.exit ?_))
    | (
      refine AWP.condF rfl ?_
      all_goals (refine AWP.skip ?_)
      all_goals (refine AWP.freezeRow 9 rfl hO1 (G := fun _ => none) (fun c x h => by cases h) ?_)
      all_goals (refine AWP.lastR rfl ?_)
      all_goals (first | (refine ASL.light rfl rfl (opMove (v := v20) rfl rfl) ?_) | (refine ASL.light rfl rfl (opMove (v := .list _ _) rfl rfl) ?_) | (refine ASL.light rfl rfl (opMove (v := .slc _ _ _ _) rfl rfl) ?_) | (refine ASL.light rfl rfl (opMove (v := .nil) rfl rfl) ?_))
      all_goals (first | (refine ASL.light rfl rfl (opAssign (v := v20) rfl rfl) ?_) | (refine ASL.light rfl rfl (opAssign (v := .list _ _) rfl rfl) ?_) | (refine ASL.light rfl rfl (opAssign (v := .slc _ _ _ _) rfl rfl) ?_) | (refine ASL.light rfl rfl (opAssign (v := .nil) rfl rfl) ?_))
      all_goals (refine ASL.done ?_)))
  all_goals (try (have hne : mxL (iterL m y K) (boxMulL m (iterL m y K) y) ≠ (iterL m y K) := (by intro k; exact absurd (hi1e.trans k) h43); have hb0 := mul_bx hz0 hy; have hsum := (mx_sum (x := (iterL m y K)) (y := (boxMulL m (iterL m y K) y)) (by rw [hz1, hb0.1])).2 hne; have hle := sum_le (z := mxL (iterL m y K) (boxMulL m (iterL m y K) y)) (fun i => ((mx_bx hz0 hb0).2 i).2); have hln := (mx_bx hz0 hb0).1; exact ⟨K + 1, trivial, by show (2 * ((m * m : Nat) : Int) - sumL (mxL (iterL m y K) (boxMulL m (iterL m y K) y))).toNat < _; omega, ⟨rfl, rfl, rfl, rfl, by rw [hi1e]; rfl, trivial⟩, rfl⟩))
  all_goals (refine AWP.seq ?_)
  all_goals (have hrest : iterL m y (K + 1) = iterL m y K := (by show mxL (iterL m y K) (boxMulL m (iterL m y K) y) = (iterL m y K); rw [← hi1e]; assumption); have hsl := setListL_len s)
  all_goals (refine AWP.seqR rfl ?_)
  all_goals (first | (refine ASL.light rfl rfl (opFieldAddrR rfl fieldA_35_2 rfl rfl) ?_) | (refine ASL.light rfl rfl (opFieldAddr rfl fieldA_35_2 rfl rfl) ?_))
  all_goals (first | (refine ASL.light rfl rfl (opLoadR (v := .int _ _) rfl aggA_3 rfl rfl) ?_) | (refine ASL.light rfl rfl (opLoadRowI rfl aggA_3 rfl (by assumption) (by first | omega | (simp; omega))) ?_) | (refine ASL.light rfl rfl (opLoadOwnI rfl aggA_3 rfl (by assumption) (by first | first | omega | (simp; omega) | (simp; first | omega | (simp; omega)))) ?_))
  all_goals (refine ASL.callP rfl rfl rfl rfl call_114 (PO.list (impl_SetList _)) rfl ?_; rintro _ rfl)
  all_goals (first | (refine ASL.light rfl rfl (opLenOwn rfl rfl rfl lenT_22 rfl (by assumption)) ?_) | (refine ASL.light rfl rfl (opLenMap rfl rfl rfl lenT_22 rfl) ?_) | (refine ASL.light rfl rfl (opLenOf rfl rfl rfl lenT_22 rfl rfl) ?_))
  all_goals (refine ASL.light rfl rfl (opMove (v := .int _ _) rfl rfl) ?_)
  all_goals (refine ASL.done ?_)
  all_goals (refine AWP.block ?_)
  all_goals (refine AWP.loopL (α := Nat) (fun j => [(1, ints x), (2, ints y), (3, .rptr [.int .i64 l, .int .i64 m, .int .i64 s, .list 4 (es.map edgeA)]), (7, .int .i64 m), (8, ints (iterL m y K)), (47, ints (setListL s)), (48, .int .i64 (setListL s).length), (49, .int .i64 j)]) (fun j G => True) (fun j => (setListL s).length - j) (fun j => j ≤ (setListL s).length ∧ ∀ k, k < j → ∀ i : Nat, (setListL s).getD k 0 = (i : Int) → ¬ hitS m x (iterL m y K) (iterL m y K) i) 0 ⟨by omega, fun k hk => by omega⟩ ⟨rfl, rfl, rfl, rfl, rfl, rfl, rfl, rfl, trivial⟩ trivial ?_)
  rintro j G2 hI2 _
  all_goals (refine AWP.seqR rfl ?_)
  all_goals (refine ASL.dec rfl rfl (opInt rfl rfl rfl rfl) ?_ ?_ <;> intro h50)
  all_goals (refine ASL.done ?_)
  all_goals (refine AWP.seq ?_)
  all_goals (first
    | (
      refine AWP.condF rfl ?_
      all_goals (refine AWP.exit ?_))
    | (
      refine AWP.condT rfl ?_
      all_goals (refine AWP.skip ?_)
      all_goals (refine AWP.seq ?_)
      all_goals (refine AWP.block ?_)
      all_goals (refine AWP.seqR rfl ?_)
      all_goals (first | (refine ASL.light rfl rfl (opIndexOwn rfl elemA_22 sizeA_3 rfl (by assumption) rfl (by first | omega | (simp; omega))) ?_) | (refine ASL.light rfl rfl (opIndexOwnI rfl elemA_22 sizeA_3 rfl (by assumption) rfl (by first | omega | (simp; omega)) (by first | omega | (simp; omega))) ?_) | (refine ASL.light rfl rfl (opIndexIN rfl rfl rfl elemA_22 sizeA_3 (by first | omega | (simp; omega))) ?_) | (refine ASL.light rfl rfl (opIndexI rfl rfl rfl elemA_22 sizeA_3 (by first | omega | (simp; omega)) (by first | omega | (simp; omega))) ?_) | (refine ASL.light rfl rfl (opIndexN rfl rfl rfl elemA_22 sizeA_3 (by first | omega | (simp; omega)) rfl) ?_) | (refine ASL.light rfl rfl (opIndexMap rfl rfl rfl elemA_22 sizeA_3 (by first | omega | (simp; omega)) (by first | omega | (simp; omega)) rfl) ?_) | (refine ASL.light rfl rfl (opIndexAddrN rfl rfl rfl elemA_22 sizeA_3 (by first | omega | (simp; omega))) ?_) | (refine ASL.light rfl rfl (opIndexAddr rfl rfl rfl elemA_22 sizeA_3 (by first | omega | (simp; omega)) (by first | omega | (simp; omega)) rfl) ?_))
      all_goals (first | (obtain ⟨i, him, hib, hie⟩ := setList_of hs hb.2 (j := j) (by omega); refine ASL.light rfl rfl (opLoadR (v := .int _ _) rfl aggA_3 rfl rfl) ?_) | (obtain ⟨i, him, hib, hie⟩ := setList_of hs hb.2 (j := j) (by omega); refine ASL.light rfl rfl (opLoadRowI rfl aggA_3 rfl (by assumption) (by first | omega | (simp; omega))) ?_) | (obtain ⟨i, him, hib, hie⟩ := setList_of hs hb.2 (j := j) (by omega); refine ASL.light rfl rfl (opLoadOwnI rfl aggA_3 rfl (by assumption) (by first | first | omega | (simp; omega) | (simp; first | omega | (simp; omega)))) ?_))
      all_goals (refine ASL.light rfl rfl (opAssign (v := .int _ _) rfl rfl) ?_)
      all_goals (refine ASL.done ?_)
      all_goals (rw [hie])
      all_goals (refine AWP.seqR rfl ?_)
      all_goals (refine ASL.light rfl rfl (opMove (v := .int _ _) rfl rfl) ?_)
      all_goals (refine ASL.light rfl rfl (opMove (v := .int _ _) rfl rfl) ?_)
      all_goals (refine ASL.done ?_)
      all_goals (refine AWP.block ?_)
      all_goals (refine AWP.loopL (α := Nat) (fun p => [(1, ints x), (2, ints y), (3, .rptr [.int .i64 l, .int .i64 m, .int .i64 s, .list 4 (es.map edgeA)]), (7, .int .i64 m), (8, ints (iterL m y K)), (47, ints (setListL s)), (48, .int .i64 (setListL s).length), (49, .int .i64 j), (13, .int .i64 i), (53, .int .i64 m), (54, .int .i64 p)]) (fun p G => True) (fun p => m - p) (fun p => p ≤ m ∧ ∀ k, k < p → ¬ hitP m x (iterL m y K) (iterL m y K) i k) 0 ⟨by omega, fun k hk => by omega⟩ ⟨rfl, rfl, rfl, rfl, rfl, rfl, rfl, rfl, rfl, rfl, rfl, trivial⟩ trivial ?_)
      rintro p G3 hI3 _
      all_goals (refine AWP.seqR rfl ?_)
      all_goals (refine ASL.dec rfl rfl (opInt rfl rfl rfl rfl) ?_ ?_ <;> intro h55)
      all_goals (refine ASL.done ?_)
      all_goals (refine AWP.seq ?_)
      all_goals (first
        | (
          refine AWP.condF rfl ?_
          all_goals (refine AWP.exit ?_))
        | (
          refine AWP.condT rfl ?_
          all_goals (refine AWP.skip ?_)
          all_goals (refine AWP.seq ?_)
          all_goals (refine AWP.block ?_)
          all_goals (refine AWP.seqR rfl ?_)
          all_goals (refine ASL.light rfl rfl (opMove (v := .int _ _) rfl rfl) ?_)
          all_goals (refine ASL.light rfl rfl (opAssign (v := .int _ _) rfl rfl) ?_)
          all_goals (refine ASL.done ?_)
          all_goals (refine AWP.seq ?_)
          all_goals (refine AWP.seqR rfl ?_)
          all_goals (first | (refine ASL.light rfl rfl (opMove (v := v20) rfl rfl) ?_) | (refine ASL.light rfl rfl (opMove (v := .list _ _) rfl rfl) ?_) | (refine ASL.light rfl rfl (opMove (v := .slc _ _ _ _) rfl rfl) ?_) | (refine ASL.light rfl rfl (opMove (v := .nil) rfl rfl) ?_))
          all_goals (refine ASL.light rfl rfl (opMove (v := .int _ _) rfl rfl) ?_)
          all_goals (refine ASL.light rfl rfl (opMove (v := .int _ _) rfl rfl) ?_)
          all_goals (first | (have hqa := pq4 hb (show i < m by omega) (show p < m by omega); refine ASL.light rfl rfl (opMul rfl rfl rfl (by first | omega | (simp; omega))) ?_) | (have hqa := pq4 hb (show i < m by omega) (show p < m by omega); refine ASL.light rfl rfl (opInt rfl rfl rfl rfl) ?_))
          all_goals (refine ASL.light rfl rfl (opMove (v := .int _ _) rfl rfl) ?_)
          all_goals (first | (refine ASL.light rfl rfl (opAdd rfl rfl rfl (by first | omega | (simp; omega))) ?_) | (refine ASL.light rfl rfl (opInt rfl rfl rfl rfl) ?_))
          all_goals (first | (refine ASL.light rfl rfl (opIndexOwn rfl elemA_22 sizeA_3 rfl (by assumption) rfl (by first | omega | (simp; omega))) ?_) | (refine ASL.light rfl rfl (opIndexOwnI rfl elemA_22 sizeA_3 rfl (by assumption) rfl (by first | omega | (simp; omega)) (by first | omega | (simp; omega))) ?_) | (refine ASL.light rfl rfl (opIndexIN rfl rfl rfl elemA_22 sizeA_3 (by first | omega | (simp; omega))) ?_) | (refine ASL.light rfl rfl (opIndexI rfl rfl rfl elemA_22 sizeA_3 (by first | omega | (simp; omega)) (by first | omega | (simp; omega))) ?_) | (refine ASL.light rfl rfl (opIndexN rfl rfl rfl elemA_22 sizeA_3 (by first | omega | (simp; omega)) rfl) ?_) | (refine ASL.light rfl rfl (opIndexMap rfl rfl rfl elemA_22 sizeA_3 (by first | omega | (simp; omega)) (by first | omega | (simp; omega)) rfl) ?_) | (refine ASL.light rfl rfl (opIndexAddrN rfl rfl rfl elemA_22 sizeA_3 (by first | omega | (simp; omega))) ?_) | (refine ASL.light rfl rfl (opIndexAddr rfl rfl rfl elemA_22 sizeA_3 (by first | omega | (simp; omega)) (by first | omega | (simp; omega)) rfl) ?_))
          all_goals (first | (refine ASL.light rfl rfl (opLoadR (v := .int _ _) rfl aggA_3 rfl rfl) ?_) | (refine ASL.light rfl rfl (opLoadRowI rfl aggA_3 rfl (by assumption) (by first | omega | (simp; omega))) ?_) | (refine ASL.light rfl rfl (opLoadOwnI rfl aggA_3 rfl (by assumption) (by first | first | omega | (simp; omega) | (simp; first | omega | (simp; omega)))) ?_))
          all_goals (refine ASL.dec rfl rfl (opInt rfl rfl rfl rfl) ?_ ?_ <;> intro h65)
          all_goals (refine ASL.done ?_)
          all_goals (first
            | (
              refine AWP.condT rfl ?_
              all_goals (refine AWP.exit ?_))
            | (
              refine AWP.condF rfl ?_
              all_goals (refine AWP.skip ?_)
              all_goals (refine AWP.seqR rfl ?_)
              all_goals (refine ASL.light rfl rfl (opMove (v := .int _ _) rfl rfl) ?_)
              all_goals (refine ASL.light rfl rfl (opMove (v := .int _ _) rfl rfl) ?_)
              all_goals (refine ASL.done ?_)
              all_goals (refine AWP.block ?_)
              all_goals (refine AWP.loopL (α := Nat) (fun q => [(1, ints x), (2, ints y), (3, .rptr [.int .i64 l, .int .i64 m, .int .i64 s, .list 4 (es.map edgeA)]), (7, .int .i64 m), (8, ints (iterL m y K)), (47, ints (setListL s)), (48, .int .i64 (setListL s).length), (49, .int .i64 j), (13, .int .i64 i), (53, .int .i64 m), (54, .int .i64 p), (14, .int .i64 p), (66, .int .i64 m), (67, .int .i64 q)]) (fun q G => True) (fun q => m - q) (fun q => q ≤ m ∧ ∀ k, k < q → ¬ hitQ m (iterL m y K) (iterL m y K) p k) 0 ⟨by omega, fun k hk => by omega⟩ ⟨rfl, rfl, rfl, rfl, rfl, rfl, rfl, rfl, rfl, rfl, rfl, rfl, rfl, rfl, trivial⟩ trivial ?_)
              rintro q G4 hI4 _
              all_goals (refine AWP.seqR rfl ?_)
              all_goals (refine ASL.dec rfl rfl (opInt rfl rfl rfl rfl) ?_ ?_ <;> intro h68)
              all_goals (refine ASL.done ?_)
              all_goals (refine AWP.seq ?_)
              all_goals (first
                | (
                  refine AWP.condF rfl ?_
                  all_goals (refine AWP.exit ?_))
                | (
                  refine AWP.condT rfl ?_
                  all_goals (refine AWP.skip ?_)
                  all_goals (refine AWP.seq ?_)
                  all_goals (refine AWP.block ?_)
                  all_goals (refine AWP.seqR rfl ?_)
                  all_goals (refine ASL.light rfl rfl (opMove (v := .int _ _) rfl rfl) ?_)
                  all_goals (refine ASL.light rfl rfl (opAssign (v := .int _ _) rfl rfl) ?_)
                  all_goals (refine ASL.done ?_)
                  all_goals (refine AWP.seqR rfl ?_)
                  all_goals (refine ASL.light rfl rfl (opMove (v := .int _ _) rfl rfl) ?_)
                  all_goals (refine ASL.light rfl rfl (opMove (v := .int _ _) rfl rfl) ?_)
                  all_goals (refine ASL.dec rfl rfl (opInt rfl rfl rfl rfl) ?_ ?_ <;> intro h72)
                  all_goals (refine ASL.light rfl rfl (opMove (v := .bool _) rfl rfl) ?_)
                  all_goals (first | (refine ASL.off rfl rfl ?_) | (refine ASL.light rfl rfl (opMove (v := v20) rfl rfl) ?_) | (refine ASL.light rfl rfl (opMove (v := .list _ _) rfl rfl) ?_) | (refine ASL.light rfl rfl (opMove (v := .slc _ _ _ _) rfl rfl) ?_) | (refine ASL.light rfl rfl (opMove (v := .nil) rfl rfl) ?_))
                  all_goals (first | (refine ASL.off rfl rfl ?_) | (refine ASL.light rfl rfl (opMove (v := .int _ _) rfl rfl) ?_))
                  all_goals (first | (refine ASL.off rfl rfl ?_) | (refine ASL.light rfl rfl (opMove (v := .int _ _) rfl rfl) ?_))
                  all_goals (first | (refine ASL.off rfl rfl ?_) | (have hqb := pq4 hb (show p < m by omega) (show q < m by omega); refine ASL.light rfl rfl (opMul rfl rfl rfl (by first | omega | (simp; omega))) ?_) | (have hqb := pq4 hb (show p < m by omega) (show q < m by omega); refine ASL.light rfl rfl (opInt rfl rfl rfl rfl) ?_))
                  all_goals (first | (refine ASL.off rfl rfl ?_) | (refine ASL.light rfl rfl (opMove (v := .int _ _) rfl rfl) ?_))
                  all_goals (first | (refine ASL.off rfl rfl ?_) | (refine ASL.light rfl rfl (opAdd rfl rfl rfl (by first | omega | (simp; omega))) ?_) | (refine ASL.light rfl rfl (opInt rfl rfl rfl rfl) ?_))
                  all_goals (first | (refine ASL.off rfl rfl ?_) | (refine ASL.light rfl rfl (opIndexOwn rfl elemA_22 sizeA_3 rfl (by assumption) rfl (by first | omega | (simp; omega))) ?_) | (refine ASL.light rfl rfl (opIndexOwnI rfl elemA_22 sizeA_3 rfl (by assumption) rfl (by first | omega | (simp; omega)) (by first | omega | (simp; omega))) ?_) | (refine ASL.light rfl rfl (opIndexIN rfl rfl rfl elemA_22 sizeA_3 (by first | omega | (simp; omega))) ?_) | (refine ASL.light rfl rfl (opIndexI rfl rfl rfl elemA_22 sizeA_3 (by first | omega | (simp; omega)) (by first | omega | (simp; omega))) ?_) | (refine ASL.light rfl rfl (opIndexN rfl rfl rfl elemA_22 sizeA_3 (by first | omega | (simp; omega)) rfl) ?_) | (refine ASL.light rfl rfl (opIndexMap rfl rfl rfl elemA_22 sizeA_3 (by first | omega | (simp; omega)) (by first | omega | (simp; omega)) rfl) ?_) | (refine ASL.light rfl rfl (opIndexAddrN rfl rfl rfl elemA_22 sizeA_3 (by first | omega | (simp; omega))) ?_) | (refine ASL.light rfl rfl (opIndexAddr rfl rfl rfl elemA_22 sizeA_3 (by first | omega | (simp; omega)) (by first | omega | (simp; omega)) rfl) ?_))
                  all_goals (first | (refine ASL.off rfl rfl ?_) | (refine ASL.light rfl rfl (opLoadR (v := .int _ _) rfl aggA_3 rfl rfl) ?_) | (refine ASL.light rfl rfl (opLoadRowI rfl aggA_3 rfl (by assumption) (by first | omega | (simp; omega))) ?_) | (refine ASL.light rfl rfl (opLoadOwnI rfl aggA_3 rfl (by assumption) (by first | first | omega | (simp; omega) | (simp; first | omega | (simp; omega)))) ?_))
                  all_goals (first | (refine ASL.off rfl rfl ?_) | (refine ASL.dec rfl rfl (opInt rfl rfl rfl rfl) ?_ ?_ <;> intro h82))
                  all_goals (refine ASL.light rfl rfl (opPick (v := .bool _) rfl rfl rfl) ?_)
                  all_goals (refine ASL.light rfl rfl (opMove (v := .bool _) rfl rfl) ?_)
                  all_goals (first | (refine ASL.off rfl rfl ?_) | (refine ASL.light rfl rfl (opMove (v := v20) rfl rfl) ?_) | (refine ASL.light rfl rfl (opMove (v := .list _ _) rfl rfl) ?_) | (refine ASL.light rfl rfl (opMove (v := .slc _ _ _ _) rfl rfl) ?_) | (refine ASL.light rfl rfl (opMove (v := .nil) rfl rfl) ?_))
                  all_goals (first | (refine ASL.off rfl rfl ?_) | (refine ASL.light rfl rfl (opMove (v := .int _ _) rfl rfl) ?_))
                  all_goals (first | (refine ASL.off rfl rfl ?_) | (refine ASL.light rfl rfl (opMove (v := .int _ _) rfl rfl) ?_))
                  all_goals (first | (refine ASL.off rfl rfl ?_) | (have hqc := pq4 hb (show q < m by omega) (show q < m by omega); refine ASL.light rfl rfl (opMul rfl rfl rfl (by first | omega | (simp; omega))) ?_) | (have hqc := pq4 hb (show q < m by omega) (show q < m by omega); refine ASL.light rfl rfl (opInt rfl rfl rfl rfl) ?_))
                  all_goals (first | (refine ASL.off rfl rfl ?_) | (refine ASL.light rfl rfl (opMove (v := .int _ _) rfl rfl) ?_))
                  all_goals (first | (refine ASL.off rfl rfl ?_) | (refine ASL.light rfl rfl (opAdd rfl rfl rfl (by first | omega | (simp; omega))) ?_) | (refine ASL.light rfl rfl (opInt rfl rfl rfl rfl) ?_))
                  all_goals (first | (refine ASL.off rfl rfl ?_) | (refine ASL.light rfl rfl (opIndexOwn rfl elemA_22 sizeA_3 rfl (by assumption) rfl (by first | omega | (simp; omega))) ?_) | (refine ASL.light rfl rfl (opIndexOwnI rfl elemA_22 sizeA_3 rfl (by assumption) rfl (by first | omega | (simp; omega)) (by first | omega | (simp; omega))) ?_) | (refine ASL.light rfl rfl (opIndexIN rfl rfl rfl elemA_22 sizeA_3 (by first | omega | (simp; omega))) ?_) | (refine ASL.light rfl rfl (opIndexI rfl rfl rfl elemA_22 sizeA_3 (by first | omega | (simp; omega)) (by first | omega | (simp; omega))) ?_) | (refine ASL.light rfl rfl (opIndexN rfl rfl rfl elemA_22 sizeA_3 (by first | omega | (simp; omega)) rfl) ?_) | (refine ASL.light rfl rfl (opIndexMap rfl rfl rfl elemA_22 sizeA_3 (by first | omega | (simp; omega)) (by first | omega | (simp; omega)) rfl) ?_) | (refine ASL.light rfl rfl (opIndexAddrN rfl rfl rfl elemA_22 sizeA_3 (by first | omega | (simp; omega))) ?_) | (refine ASL.light rfl rfl (opIndexAddr rfl rfl rfl elemA_22 sizeA_3 (by first | omega | (simp; omega)) (by first | omega | (simp; omega)) rfl) ?_))
                  all_goals (first | (refine ASL.off rfl rfl ?_) | (refine ASL.light rfl rfl (opLoadR (v := .int _ _) rfl aggA_3 rfl rfl) ?_) | (refine ASL.light rfl rfl (opLoadRowI rfl aggA_3 rfl (by assumption) (by first | omega | (simp; omega))) ?_) | (refine ASL.light rfl rfl (opLoadOwnI rfl aggA_3 rfl (by assumption) (by first | first | omega | (simp; omega) | (simp; first | omega | (simp; omega)))) ?_))
                  all_goals (first | (refine ASL.off rfl rfl ?_) | (refine ASL.dec rfl rfl (opInt rfl rfl rfl rfl) ?_ ?_ <;> intro h93))
                  all_goals (refine ASL.light rfl rfl (opPick (v := .bool _) rfl rfl rfl) ?_)
                  all_goals (refine ASL.done ?_)
                  all_goals (first
                    | (
                      refine AWP.condT rfl ?_
                      all_goals (refine AWP.seqR rfl ?_)
                      all_goals (refine ASL.light rfl rfl (opAssign (v := .bool _) rfl rfl) ?_)
                      all_goals (refine ASL.done ?_)
                      all_goals (refine AWP.ret ?_)
                      all_goals (repeat with_reducible refine QThen.ret1 ?_)
                      all_goals (first | exact QRet.bool rfl rfl rfl (takes_yes him hib ((hit_rest hy hrest).mp ⟨p, by omega, by (have := (hx.2 (i * m + p)).1; unfold ent; omega), q, by omega, (by first | exact .inl (by omega) | exact .inr (by assumption)), by assumption⟩)) | exact QRet.bool rfl rfl rfl (takes_no (fun i2 hi2 hb2 hh => by have hp4 : (2 : Nat) ^ m ≤ 2 ^ 4 := Nat.pow_le_pow_right (by omega) hb.2; obtain ⟨j2, hj2, he2⟩ := setList_has (s := s) ⟨hs.1, by omega⟩ (by omega) hb2; exact hI2.2 j2 (by omega) i2 he2 ((hit_rest hy hrest).mpr hh)))))
                    | (
                      refine AWP.condF rfl ?_
                      all_goals (refine AWP.skip ?_)))
                  all_goals (refine AWP.lastR rfl ?_)
                  all_goals (first | (refine ASL.light rfl rfl (opAdd rfl rfl rfl (by first | omega | (simp; omega))) ?_) | (refine ASL.light rfl rfl (opInt rfl rfl rfl rfl) ?_))
                  all_goals (refine ASL.light rfl rfl (opMove (v := .int _ _) rfl rfl) ?_)
                  all_goals (refine ASL.done ?_)
                  all_goals (exact ⟨q + 1, ⟨by omega, upTo_next hI4.2 (fun g => by obtain ⟨g1, g2⟩ := g; unfold ent at g1 g2; omega)⟩, by omega, ⟨rfl, rfl, rfl, rfl, rfl, rfl, rfl, rfl, rfl, rfl, rfl, rfl, rfl, rfl, trivial⟩, trivial⟩)))))
          all_goals (refine AWP.lastR rfl ?_)
          all_goals (first | (refine ASL.light rfl rfl (opAdd rfl rfl rfl (by first | omega | (simp; omega))) ?_) | (refine ASL.light rfl rfl (opInt rfl rfl rfl rfl) ?_))
          all_goals (refine ASL.light rfl rfl (opMove (v := .int _ _) rfl rfl) ?_)
          all_goals (refine ASL.done ?_)
          all_goals (first | exact ⟨p + 1, ⟨by omega, upTo_next hI3.2 (fun g => by (have g1 := g.1; unfold ent at g1; omega))⟩, by omega, ⟨rfl, rfl, rfl, rfl, rfl, rfl, rfl, rfl, rfl, rfl, rfl, trivial⟩, trivial⟩ | exact ⟨p + 1, ⟨by omega, upTo_next hI3.2 (fun g => by obtain ⟨q2, hq2, g2⟩ := g.2; exact hI4.2 q2 (by omega) g2)⟩, by omega, ⟨rfl, rfl, rfl, rfl, rfl, rfl, rfl, rfl, rfl, rfl, rfl, trivial⟩, trivial⟩)))
      all_goals (refine AWP.lastR rfl ?_)
      all_goals (first | (refine ASL.light rfl rfl (opAdd rfl rfl rfl (by first | omega | (simp; omega))) ?_) | (refine ASL.light rfl rfl (opInt rfl rfl rfl rfl) ?_))
      all_goals (refine ASL.light rfl rfl (opMove (v := .int _ _) rfl rfl) ?_)
      all_goals (refine ASL.done ?_)
      all_goals (exact ⟨j + 1, ⟨by omega, upTo_next hI2.2 (fun i2 hi2 => by have e2 : i2 = i := (by omega); subst e2; rintro ⟨p2, hp2, g⟩; exact hI3.2 p2 (by omega) g)⟩, by omega, ⟨rfl, rfl, rfl, rfl, rfl, rfl, rfl, rfl, trivial⟩, trivial⟩)))
  all_goals (refine AWP.seqR rfl ?_)
  all_goals (refine ASL.light rfl rfl (opAssign (v := .bool _) rfl rfl) ?_)
  all_goals (refine ASL.done ?_)
  all_goals (refine AWP.ret ?_)
  all_goals (repeat with_reducible refine QThen.ret1 ?_)
  all_goals (first | exact QRet.bool rfl rfl rfl (takes_yes him hib ((hit_rest hy hrest).mp ⟨p, by omega, by (have := (hx.2 (i * m + p)).1; unfold ent; omega), q, by omega, (by first | exact .inl (by omega) | exact .inr (by assumption)), by assumption⟩)) | exact QRet.bool rfl rfl rfl (takes_no (fun i2 hi2 hb2 hh => by have hp4 : (2 : Nat) ^ m ≤ 2 ^ 4 := Nat.pow_le_pow_right (by omega) hb.2; obtain ⟨j2, hj2, he2⟩ := setList_has (s := s) ⟨hs.1, by omega⟩ (by omega) hb2; exact hI2.2 j2 (by omega) i2 he2 ((hit_rest hy hrest).mpr hh))))

set_option maxRecDepth 10000 in
theorem spec_l14Takes (m : Nat) (s : Int) (x y : List Int) (hb : 1 ≤ m ∧ m ≤ 4) (hs : 0 ≤ s ∧ s < ((2 ^ m : Nat) : Int)) (hx : Bx m x) (hy : Bx m y) : PC Try.prog 94 [.int .i64 m, .int .i64 s, ints x, ints y] (fun v => v = .bool (takesB m s x y)) := by
  refine PC.enter Try.func94 rfl Try.ntmps94 (by simp) ?_
  obtain ⟨hm1, hm2, hm3, hm4, hm5⟩ := mm4 hb; have hx1 := hx.1; have hy1 := hy.1; have hM1 := (iter_bx hy m).1; have hp4 : (2 : Nat) ^ m ≤ 2 ^ 4 := Nat.pow_le_pow_right (by omega) hb.2
  all_goals (refine AWP.seqR rfl ?_)
  all_goals (refine ASL.light rfl rfl (opAssign (v := .bool _) rfl rfl) ?_)
  all_goals (refine ASL.done ?_)
  all_goals (refine AWP.seqR rfl ?_)
  all_goals (refine ASL.heavy1 rfl rfl (opBuildSlice (xs := List.map (AV.int .i64) []) rfl elemA_22 sizeA_3 zeroA_3 rfl rfl rfl rfl (by simp [cells]) (by decide) ?_); rintro v20 G20 hO20 hK20 hN20 -)
  all_goals (first | (refine ASL.light rfl rfl (opMove (v := v20) rfl rfl) ?_) | (refine ASL.light rfl rfl (opMove (v := v22) rfl rfl) ?_) | (refine ASL.light rfl rfl (opMove (v := v31) rfl rfl) ?_) | (refine ASL.light rfl rfl (opMove (v := v53) rfl rfl) ?_) | (refine ASL.light rfl rfl (opMove (v := v61) rfl rfl) ?_) | (refine ASL.light rfl rfl (opMove (v := .list _ _) rfl rfl) ?_) | (refine ASL.light rfl rfl (opMove (v := .slc _ _ _ _) rfl rfl) ?_) | (refine ASL.light rfl rfl (opMove (v := .nil) rfl rfl) ?_))
  all_goals (first | (refine ASL.heavy1 rfl rfl (opAppend1 (f := AV.int .i64) rfl elemA_22 rfl sizeA_3 bytesA_3 zeroA_3 rfl rfl rfl rfl (by assumption) (by first | omega | (simp; omega)) (by first | omega | (simp; omega)) ?_); rintro v22 G22 hO22 hB22 hN22) | (refine ASL.heavy1 rfl rfl (opAppendL (f := AV.int .i64) rfl elemA_22 rfl sizeA_3 bytesA_3 zeroA_3 rfl rfl rfl (fun _ => rfl) (by assumption) (by first | omega | (simp; omega)) (by first | omega | (simp; omega)) ?_); rintro v22 G22 hO22 hB22 hN22))
  all_goals (first | (refine ASL.light rfl rfl (opAssign (v := v20) rfl rfl) ?_) | (refine ASL.light rfl rfl (opAssign (v := v22) rfl rfl) ?_) | (refine ASL.light rfl rfl (opAssign (v := v31) rfl rfl) ?_) | (refine ASL.light rfl rfl (opAssign (v := v53) rfl rfl) ?_) | (refine ASL.light rfl rfl (opAssign (v := v61) rfl rfl) ?_) | (refine ASL.light rfl rfl (opAssign (v := .list _ _) rfl rfl) ?_) | (refine ASL.light rfl rfl (opAssign (v := .slc _ _ _ _) rfl rfl) ?_) | (refine ASL.light rfl rfl (opAssign (v := .nil) rfl rfl) ?_))
  all_goals (refine ASL.done ?_)
  all_goals (refine AWP.seq ?_)
  all_goals (refine AWP.seqR rfl ?_)
  all_goals (refine ASL.light rfl rfl (opAssign (v := .int _ _) rfl rfl) ?_)
  all_goals (refine ASL.done ?_)
  all_goals (refine AWP.block ?_)
  all_goals (refine AWP.loopL (α := Nat) (fun k => [(0, .int .i64 m), (1, .int .i64 s), (2, ints x), (3, ints y), (9, v22), (10, .int .i64 k)]) (fun k G => Own 1 G v22 ((iterL m y k).map (AV.int .i64))) (fun k => m - k) (fun k => k ≤ m) 0 (by omega) ⟨rfl, rfl, rfl, rfl, rfl, rfl, trivial⟩ (by have h := hO22; rw [List.nil_append] at h; exact h) ?_)
  rintro k G0 hI0 hO0
  all_goals (refine AWP.seq ?_)
  all_goals (refine AWP.seqR rfl ?_)
  all_goals (refine ASL.light rfl rfl (opMove (v := .int _ _) rfl rfl) ?_)
  all_goals (refine ASL.light rfl rfl (opMove (v := .int _ _) rfl rfl) ?_)
  all_goals (refine ASL.dec rfl rfl (opInt rfl rfl rfl rfl) ?_ ?_ <;> intro h25)
  all_goals (refine ASL.done ?_)
  all_goals (first
    | (
      refine AWP.condF rfl ?_
      all_goals (refine AWP.exit ?_))
    | (
      refine AWP.condT rfl ?_
      all_goals (refine AWP.skip ?_)
      all_goals (refine AWP.seq ?_)
      all_goals (refine AWP.block ?_)
      all_goals (refine AWP.seqR rfl ?_)
      all_goals (refine ASL.light rfl rfl (opMove (v := .int _ _) rfl rfl) ?_)
      all_goals (first | (refine ASL.light rfl rfl (opMove (v := v20) rfl rfl) ?_) | (refine ASL.light rfl rfl (opMove (v := v22) rfl rfl) ?_) | (refine ASL.light rfl rfl (opMove (v := v31) rfl rfl) ?_) | (refine ASL.light rfl rfl (opMove (v := v53) rfl rfl) ?_) | (refine ASL.light rfl rfl (opMove (v := v61) rfl rfl) ?_) | (refine ASL.light rfl rfl (opMove (v := .list _ _) rfl rfl) ?_) | (refine ASL.light rfl rfl (opMove (v := .slc _ _ _ _) rfl rfl) ?_) | (refine ASL.light rfl rfl (opMove (v := .nil) rfl rfl) ?_))
      all_goals (first | (refine ASL.light rfl rfl (opMove (v := v20) rfl rfl) ?_) | (refine ASL.light rfl rfl (opMove (v := v22) rfl rfl) ?_) | (refine ASL.light rfl rfl (opMove (v := v31) rfl rfl) ?_) | (refine ASL.light rfl rfl (opMove (v := v53) rfl rfl) ?_) | (refine ASL.light rfl rfl (opMove (v := v61) rfl rfl) ?_) | (refine ASL.light rfl rfl (opMove (v := .list _ _) rfl rfl) ?_) | (refine ASL.light rfl rfl (opMove (v := .slc _ _ _ _) rfl rfl) ?_) | (refine ASL.light rfl rfl (opMove (v := .nil) rfl rfl) ?_))
      all_goals (have hz1 := (iter_bx hy k).1; refine ASL.callOR rfl rfl rfl rfl call_67 (by exact ⟨RA.same _, RA.own hO0, RA.same _, trivial⟩) (spec_l14Mul m _ _ hb hz1 hy.1) (Scal.ints _ _) ?_; rintro v31 G31 hO31 hK31 hN31; have hA31 := Own.apart hO0 hN31; have hP31 := Own.grow hO0 hK31)
      all_goals (first | (refine ASL.light rfl rfl (opAssign (v := v20) rfl rfl) ?_) | (refine ASL.light rfl rfl (opAssign (v := v22) rfl rfl) ?_) | (refine ASL.light rfl rfl (opAssign (v := v31) rfl rfl) ?_) | (refine ASL.light rfl rfl (opAssign (v := v53) rfl rfl) ?_) | (refine ASL.light rfl rfl (opAssign (v := v61) rfl rfl) ?_) | (refine ASL.light rfl rfl (opAssign (v := .list _ _) rfl rfl) ?_) | (refine ASL.light rfl rfl (opAssign (v := .slc _ _ _ _) rfl rfl) ?_) | (refine ASL.light rfl rfl (opAssign (v := .nil) rfl rfl) ?_))
      all_goals (refine ASL.done ?_)
      all_goals (refine AWP.seqR rfl ?_)
      all_goals (refine ASL.light rfl rfl (opAssign (v := .int _ _) rfl rfl) ?_)
      all_goals (refine ASL.done ?_)
      all_goals (refine AWP.block ?_)
      all_goals (refine AWP.loopL (α := Nat) (fun i => [(0, .int .i64 m), (1, .int .i64 s), (2, ints x), (3, ints y), (9, v22), (10, .int .i64 k), (11, v31), (12, .int .i64 i)]) (fun i G => Own 1 G v22 ((mxUp (iterL m y k) (boxMulL m (iterL m y k) y) i).map (AV.int .i64)) ∧ Own 1 G v31 ((boxMulL m (iterL m y k) y).map (AV.int .i64))) (fun i => m * m - i) (fun i => i ≤ m * m) 0 (by omega) ⟨rfl, rfl, rfl, rfl, rfl, rfl, rfl, rfl, trivial⟩ ⟨by rw [mxUp_0]; exact hP31, hO31⟩ ?_)
      rintro i1 G1 hI1 ⟨hO1, hW1⟩
      have hwl1 := boxMulL_len m (iterL m y k) y; have hul1 := mxUp_len (z := (iterL m y k)) (w := (boxMulL m (iterL m y k) y)) (by rw [hz1, hwl1]) (i := i1) (by omega)
      all_goals (refine AWP.seq ?_)
      all_goals (refine AWP.seqR rfl ?_)
      all_goals (refine ASL.light rfl rfl (opMove (v := .int _ _) rfl rfl) ?_)
      all_goals (refine ASL.light rfl rfl (opMove (v := .int _ _) rfl rfl) ?_)
      all_goals (refine ASL.light rfl rfl (opMove (v := .int _ _) rfl rfl) ?_)
      all_goals (first | (refine ASL.light rfl rfl (opMul rfl rfl rfl (by first | omega | (simp; omega))) ?_) | (refine ASL.light rfl rfl (opInt rfl rfl rfl rfl) ?_))
      all_goals (refine ASL.dec rfl rfl (opInt rfl rfl rfl rfl) ?_ ?_ <;> intro h36)
      all_goals (refine ASL.done ?_)
      all_goals (first
        | (
          refine AWP.condF rfl ?_
          all_goals (refine AWP.exit ?_))
        | (
          refine AWP.condT rfl ?_
          all_goals (refine AWP.skip ?_)
          all_goals (refine AWP.seq ?_)
          all_goals (refine AWP.block ?_)
          all_goals (refine AWP.lastD [(0, false), (1, false), (2, false), (3, false), (4, false), (5, false), (6, false), (7, false), (8, false), (9, false), (10, false), (11, false), (12, true)] mixed (by kernel_rfl) rfl ?_)
          all_goals (first | (refine ARL.light0 rfl rfl rfl (opMove (v := v20) rfl rfl) ?_) | (refine ARL.light0 rfl rfl rfl (opMove (v := v22) rfl rfl) ?_) | (refine ARL.light0 rfl rfl rfl (opMove (v := v31) rfl rfl) ?_) | (refine ARL.light0 rfl rfl rfl (opMove (v := v53) rfl rfl) ?_) | (refine ARL.light0 rfl rfl rfl (opMove (v := v61) rfl rfl) ?_) | (refine ARL.light0 rfl rfl rfl (opMove (v := .list _ _) rfl rfl) ?_) | (refine ARL.light0 rfl rfl rfl (opMove (v := .slc _ _ _ _) rfl rfl) ?_) | (refine ARL.light0 rfl rfl rfl (opMove (v := .nil) rfl rfl) ?_))
          all_goals (refine ARL.light0 rfl rfl rfl (opMove (v := .int _ _) rfl rfl) ?_)
          all_goals (first | (refine ARL.light0 rfl rfl rfl (opMove (v := v20) rfl rfl) ?_) | (refine ARL.light0 rfl rfl rfl (opMove (v := v22) rfl rfl) ?_) | (refine ARL.light0 rfl rfl rfl (opMove (v := v31) rfl rfl) ?_) | (refine ARL.light0 rfl rfl rfl (opMove (v := v53) rfl rfl) ?_) | (refine ARL.light0 rfl rfl rfl (opMove (v := v61) rfl rfl) ?_) | (refine ARL.light0 rfl rfl rfl (opMove (v := .list _ _) rfl rfl) ?_) | (refine ARL.light0 rfl rfl rfl (opMove (v := .slc _ _ _ _) rfl rfl) ?_) | (refine ARL.light0 rfl rfl rfl (opMove (v := .nil) rfl rfl) ?_))
          all_goals (refine ARL.light0 rfl rfl rfl (opMove (v := .int _ _) rfl rfl) ?_)
          all_goals (first | (refine ARL.light0 rfl rfl rfl (opIndexOwn rfl elemA_22 sizeA_3 rfl (by assumption) rfl (by first | omega | (simp; omega))) ?_) | (refine ARL.light0 rfl rfl rfl (opIndexOwnI rfl elemA_22 sizeA_3 rfl (by assumption) rfl (by first | omega | (simp; omega)) (by first | omega | (simp; omega))) ?_) | (refine ARL.light0 rfl rfl rfl (opIndexIN rfl rfl rfl elemA_22 sizeA_3 (by first | omega | (simp; omega))) ?_) | (refine ARL.light0 rfl rfl rfl (opIndexI rfl rfl rfl elemA_22 sizeA_3 (by first | omega | (simp; omega)) (by first | omega | (simp; omega))) ?_) | (refine ARL.light0 rfl rfl rfl (opIndexN rfl rfl rfl elemA_22 sizeA_3 (by first | omega | (simp; omega)) rfl) ?_) | (refine ARL.light0 rfl rfl rfl (opIndexMap rfl rfl rfl elemA_22 sizeA_3 (by first | omega | (simp; omega)) (by first | omega | (simp; omega)) rfl) ?_) | (refine ARL.light0 rfl rfl rfl (opIndexAddrN rfl rfl rfl elemA_22 sizeA_3 (by first | omega | (simp; omega))) ?_) | (refine ARL.light0 rfl rfl rfl (opIndexAddr rfl rfl rfl elemA_22 sizeA_3 (by first | omega | (simp; omega)) (by first | omega | (simp; omega)) rfl) ?_))
          all_goals (first | (refine ARL.light0 rfl rfl rfl (opLoadR (v := .int _ _) rfl aggA_3 rfl rfl) ?_) | (refine ARL.light rfl rfl rfl (opLoadRowI rfl aggA_3 rfl (by assumption) (by first | omega | (simp; omega))) (Own.alive' (by assumption)) ?_) | (refine ARL.light rfl rfl rfl (opLoadOwnI rfl aggA_3 rfl (by assumption) (by first | first | omega | (simp; omega) | (simp; first | omega | (simp; omega)))) (by intro b_ hb_; rw [List.mem_singleton.mp hb_]; exact Own.alive (by assumption) (by first | omega | (simp; omega))) ?_))
          all_goals (first | (refine ARL.light0 rfl rfl rfl (opMove (v := v20) rfl rfl) ?_) | (refine ARL.light0 rfl rfl rfl (opMove (v := v22) rfl rfl) ?_) | (refine ARL.light0 rfl rfl rfl (opMove (v := v31) rfl rfl) ?_) | (refine ARL.light0 rfl rfl rfl (opMove (v := v53) rfl rfl) ?_) | (refine ARL.light0 rfl rfl rfl (opMove (v := v61) rfl rfl) ?_) | (refine ARL.light0 rfl rfl rfl (opMove (v := .list _ _) rfl rfl) ?_) | (refine ARL.light0 rfl rfl rfl (opMove (v := .slc _ _ _ _) rfl rfl) ?_) | (refine ARL.light0 rfl rfl rfl (opMove (v := .nil) rfl rfl) ?_))
          all_goals (refine ARL.light0 rfl rfl rfl (opMove (v := .int _ _) rfl rfl) ?_)
          all_goals (first | (refine ARL.light0 rfl rfl rfl (opIndexOwn rfl elemA_22 sizeA_3 rfl (by assumption) rfl (by first | omega | (simp; omega))) ?_) | (refine ARL.light0 rfl rfl rfl (opIndexOwnI rfl elemA_22 sizeA_3 rfl (by assumption) rfl (by first | omega | (simp; omega)) (by first | omega | (simp; omega))) ?_) | (refine ARL.light0 rfl rfl rfl (opIndexIN rfl rfl rfl elemA_22 sizeA_3 (by first | omega | (simp; omega))) ?_) | (refine ARL.light0 rfl rfl rfl (opIndexI rfl rfl rfl elemA_22 sizeA_3 (by first | omega | (simp; omega)) (by first | omega | (simp; omega))) ?_) | (refine ARL.light0 rfl rfl rfl (opIndexN rfl rfl rfl elemA_22 sizeA_3 (by first | omega | (simp; omega)) rfl) ?_) | (refine ARL.light0 rfl rfl rfl (opIndexMap rfl rfl rfl elemA_22 sizeA_3 (by first | omega | (simp; omega)) (by first | omega | (simp; omega)) rfl) ?_) | (refine ARL.light0 rfl rfl rfl (opIndexAddrN rfl rfl rfl elemA_22 sizeA_3 (by first | omega | (simp; omega))) ?_) | (refine ARL.light0 rfl rfl rfl (opIndexAddr rfl rfl rfl elemA_22 sizeA_3 (by first | omega | (simp; omega)) (by first | omega | (simp; omega)) rfl) ?_))
          all_goals (first | (refine ARL.light0 rfl rfl rfl (opLoadR (v := .int _ _) rfl aggA_3 rfl rfl) ?_) | (refine ARL.light rfl rfl rfl (opLoadRowI rfl aggA_3 rfl (by assumption) (by first | omega | (simp; omega))) (Own.alive' (by assumption)) ?_) | (refine ARL.light rfl rfl rfl (opLoadOwnI rfl aggA_3 rfl (by assumption) (by first | first | omega | (simp; omega) | (simp; first | omega | (simp; omega)))) (by intro b_ hb_; rw [List.mem_singleton.mp hb_]; exact Own.alive (by assumption) (by first | omega | (simp; omega))) ?_))
          all_goals (first | (refine ARL.callP rfl rfl rfl rfl call_106 (spec_l1Max _ _) rfl ?_; rintro _ rfl) | (refine ARL.callRP rfl rfl rfl rfl rfl call_106 (by exact ⟨by first | exact RA.same _ | exact RA.own (by assumption), by first | exact RA.same _ | exact RA.own (by assumption), trivial⟩) (spec_l1Max _ _) (by constructor) ?_))
          all_goals (first | (refine ARL.light0 rfl rfl rfl (opIndexOwn rfl elemA_22 sizeA_3 rfl (by assumption) rfl (by first | omega | (simp; omega))) ?_) | (refine ARL.light0 rfl rfl rfl (opIndexOwnI rfl elemA_22 sizeA_3 rfl (by assumption) rfl (by first | omega | (simp; omega)) (by first | omega | (simp; omega))) ?_) | (refine ARL.light0 rfl rfl rfl (opIndexIN rfl rfl rfl elemA_22 sizeA_3 (by first | omega | (simp; omega))) ?_) | (refine ARL.light0 rfl rfl rfl (opIndexI rfl rfl rfl elemA_22 sizeA_3 (by first | omega | (simp; omega)) (by first | omega | (simp; omega))) ?_) | (refine ARL.light0 rfl rfl rfl (opIndexN rfl rfl rfl elemA_22 sizeA_3 (by first | omega | (simp; omega)) rfl) ?_) | (refine ARL.light0 rfl rfl rfl (opIndexMap rfl rfl rfl elemA_22 sizeA_3 (by first | omega | (simp; omega)) (by first | omega | (simp; omega)) rfl) ?_) | (refine ARL.light0 rfl rfl rfl (opIndexAddrN rfl rfl rfl elemA_22 sizeA_3 (by first | omega | (simp; omega))) ?_) | (refine ARL.light0 rfl rfl rfl (opIndexAddr rfl rfl rfl elemA_22 sizeA_3 (by first | omega | (simp; omega)) (by first | omega | (simp; omega)) rfl) ?_))
          all_goals (first | (refine ARL.store rfl rfl rfl rfl (opStoreRowI rfl sizeA_3 rfl rfl (by assumption) (by first | first | omega | (simp; omega) | (simp; first | omega | (simp; omega))) ?_); rintro Gs1 hOs1 hBs1) | (refine ARL.store rfl rfl rfl rfl (opStoreOwnI rfl sizeA_3 rfl rfl (by assumption) (by first | first | omega | (simp; omega) | (simp; first | omega | (simp; omega))) ?_); rintro Gs1 hOs1 hBs1))
          all_goals (refine ARL.done ?_)
          all_goals (refine AWP.lastR rfl ?_)
          all_goals (refine ASL.light rfl rfl (opMove (v := .int _ _) rfl rfl) ?_)
          all_goals (first | (refine ASL.light rfl rfl (opAdd rfl rfl rfl (by first | omega | (simp; omega))) ?_) | (refine ASL.light rfl rfl (opInt rfl rfl rfl rfl) ?_))
          all_goals (refine ASL.light rfl rfl (opAssign (v := .int _ _) rfl rfl) ?_)
          all_goals (refine ASL.done ?_)
          all_goals (exact ⟨i1 + 1, by omega, by omega, ⟨rfl, rfl, rfl, rfl, rfl, rfl, rfl, rfl, trivial⟩, by have h := hOs1; rw [mxUp_step (by rw [hz1, hwl1]) (by omega) rfl] at h; exact h, Own.beside hW1 hBs1 hA31⟩)))
      all_goals (refine AWP.lastR rfl ?_)
      all_goals (refine ASL.light rfl rfl (opMove (v := .int _ _) rfl rfl) ?_)
      all_goals (first | (refine ASL.light rfl rfl (opAdd rfl rfl rfl (by first | omega | (simp; omega))) ?_) | (refine ASL.light rfl rfl (opInt rfl rfl rfl rfl) ?_))
      all_goals (refine ASL.light rfl rfl (opAssign (v := .int _ _) rfl rfl) ?_)
      all_goals (refine ASL.done ?_)
      all_goals (exact ⟨k + 1, by omega, by omega, ⟨rfl, rfl, rfl, rfl, rfl, rfl, trivial⟩, by have h := hO1; rw [show i1 = (iterL m y k).length by omega, mxUp_end (by rw [hz1, hwl1])] at h; exact h⟩)))
  all_goals ((have hk : m = k := by omega); subst hk; refine AWP.freezeRow 9 rfl hO0 (G := fun _ => none) (fun c x h => by cases h) ?_)
  all_goals (refine AWP.seqR rfl ?_)
  all_goals (refine ASL.heavy1 rfl rfl (opBuildSlice (xs := List.map (AV.int .i64) []) rfl elemA_22 sizeA_3 zeroA_3 rfl rfl rfl rfl (by simp [cells]) (by decide) ?_); rintro v51 G51 hO51 hK51 hN51 -; try (have hA51_20 := Own.apart hO20 hN51); try (have hO20 := Own.grow hO20 hK51))
  all_goals (first | (refine ASL.light rfl rfl (opMove (v := v51) rfl rfl) ?_) | (refine ASL.light rfl rfl (opMove (v := v20) rfl rfl) ?_) | (refine ASL.light rfl rfl (opMove (v := v22) rfl rfl) ?_) | (refine ASL.light rfl rfl (opMove (v := v31) rfl rfl) ?_) | (refine ASL.light rfl rfl (opMove (v := v53) rfl rfl) ?_) | (refine ASL.light rfl rfl (opMove (v := v61) rfl rfl) ?_) | (refine ASL.light rfl rfl (opMove (v := .list _ _) rfl rfl) ?_) | (refine ASL.light rfl rfl (opMove (v := .slc _ _ _ _) rfl rfl) ?_) | (refine ASL.light rfl rfl (opMove (v := .nil) rfl rfl) ?_))
  all_goals (first | (refine ASL.heavy1 rfl rfl (opAppend1 (f := AV.int .i64) rfl elemA_22 rfl sizeA_3 bytesA_3 zeroA_3 rfl rfl rfl rfl (by assumption) (by first | omega | (simp; omega)) (by first | omega | (simp; omega)) ?_); rintro v53 G53 hO53 hB53 hN53) | (refine ASL.heavy1 rfl rfl (opAppendL (f := AV.int .i64) rfl elemA_22 rfl sizeA_3 bytesA_3 zeroA_3 rfl rfl rfl (fun _ => rfl) (by assumption) (by first | omega | (simp; omega)) (by first | omega | (simp; omega)) ?_); rintro v53 G53 hO53 hB53 hN53))
  all_goals (first | (refine ASL.light rfl rfl (opAssign (v := v51) rfl rfl) ?_) | (refine ASL.light rfl rfl (opAssign (v := v20) rfl rfl) ?_) | (refine ASL.light rfl rfl (opAssign (v := v22) rfl rfl) ?_) | (refine ASL.light rfl rfl (opAssign (v := v31) rfl rfl) ?_) | (refine ASL.light rfl rfl (opAssign (v := v53) rfl rfl) ?_) | (refine ASL.light rfl rfl (opAssign (v := v61) rfl rfl) ?_) | (refine ASL.light rfl rfl (opAssign (v := .list _ _) rfl rfl) ?_) | (refine ASL.light rfl rfl (opAssign (v := .slc _ _ _ _) rfl rfl) ?_) | (refine ASL.light rfl rfl (opAssign (v := .nil) rfl rfl) ?_))
  all_goals (refine ASL.done ?_)
  all_goals (refine AWP.seq ?_)
  all_goals (refine AWP.seqR rfl ?_)
  all_goals (refine ASL.light rfl rfl (opAssign (v := .int _ _) rfl rfl) ?_)
  all_goals (refine ASL.done ?_)
  all_goals (refine AWP.block ?_)
  all_goals (refine AWP.loopL (α := Nat) (fun k => [(0, .int .i64 m), (1, .int .i64 s), (2, ints x), (3, ints y), (9, ints (iterL m y m)), (13, v53), (14, .int .i64 k)]) (fun k G => Own 1 G v53 ((lpL m y k).map (AV.int .i64))) (fun k => 2 - k) (fun k => k ≤ 2) 0 (by omega) ⟨rfl, rfl, rfl, rfl, rfl, rfl, rfl, trivial⟩ (by have h := hO53; rw [List.nil_append] at h; exact h) ?_)
  rintro k2 G2 hI2 hO2
  all_goals (refine AWP.seq ?_)
  all_goals (refine AWP.seqR rfl ?_)
  all_goals (refine ASL.light rfl rfl (opMove (v := .int _ _) rfl rfl) ?_)
  all_goals (refine ASL.dec rfl rfl (opInt rfl rfl rfl rfl) ?_ ?_ <;> intro h55)
  all_goals (refine ASL.done ?_)
  all_goals (first
    | (
      refine AWP.condF rfl ?_
      all_goals (refine AWP.exit ?_))
    | (
      refine AWP.condT rfl ?_
      all_goals (refine AWP.skip ?_)
      all_goals (refine AWP.seq ?_)
      all_goals (refine AWP.block ?_)
      all_goals (refine AWP.seqR rfl ?_)
      all_goals (refine ASL.light rfl rfl (opMove (v := .int _ _) rfl rfl) ?_)
      all_goals (first | (refine ASL.light rfl rfl (opMove (v := v51) rfl rfl) ?_) | (refine ASL.light rfl rfl (opMove (v := v20) rfl rfl) ?_) | (refine ASL.light rfl rfl (opMove (v := v22) rfl rfl) ?_) | (refine ASL.light rfl rfl (opMove (v := v31) rfl rfl) ?_) | (refine ASL.light rfl rfl (opMove (v := v53) rfl rfl) ?_) | (refine ASL.light rfl rfl (opMove (v := v61) rfl rfl) ?_) | (refine ASL.light rfl rfl (opMove (v := .list _ _) rfl rfl) ?_) | (refine ASL.light rfl rfl (opMove (v := .slc _ _ _ _) rfl rfl) ?_) | (refine ASL.light rfl rfl (opMove (v := .nil) rfl rfl) ?_))
      all_goals (first | (refine ASL.light rfl rfl (opMove (v := v51) rfl rfl) ?_) | (refine ASL.light rfl rfl (opMove (v := v20) rfl rfl) ?_) | (refine ASL.light rfl rfl (opMove (v := v22) rfl rfl) ?_) | (refine ASL.light rfl rfl (opMove (v := v31) rfl rfl) ?_) | (refine ASL.light rfl rfl (opMove (v := v53) rfl rfl) ?_) | (refine ASL.light rfl rfl (opMove (v := v61) rfl rfl) ?_) | (refine ASL.light rfl rfl (opMove (v := .list _ _) rfl rfl) ?_) | (refine ASL.light rfl rfl (opMove (v := .slc _ _ _ _) rfl rfl) ?_) | (refine ASL.light rfl rfl (opMove (v := .nil) rfl rfl) ?_))
      all_goals (have hz3 := (lpL_bx hy k2).1; refine ASL.callOR rfl rfl rfl rfl call_67 (by exact ⟨RA.same _, RA.own hO2, RA.same _, trivial⟩) (spec_l14Mul m _ _ hb hz3 hM1) (Scal.ints _ _) ?_; rintro v61 G61 hO61 hK61 hN61; have hA61 := Own.apart hO2 hN61; have hP61 := Own.grow hO2 hK61)
      all_goals (first | (refine ASL.light rfl rfl (opAssign (v := v51) rfl rfl) ?_) | (refine ASL.light rfl rfl (opAssign (v := v20) rfl rfl) ?_) | (refine ASL.light rfl rfl (opAssign (v := v22) rfl rfl) ?_) | (refine ASL.light rfl rfl (opAssign (v := v31) rfl rfl) ?_) | (refine ASL.light rfl rfl (opAssign (v := v53) rfl rfl) ?_) | (refine ASL.light rfl rfl (opAssign (v := v61) rfl rfl) ?_) | (refine ASL.light rfl rfl (opAssign (v := .list _ _) rfl rfl) ?_) | (refine ASL.light rfl rfl (opAssign (v := .slc _ _ _ _) rfl rfl) ?_) | (refine ASL.light rfl rfl (opAssign (v := .nil) rfl rfl) ?_))
      all_goals (refine ASL.done ?_)
      all_goals (refine AWP.seqR rfl ?_)
      all_goals (refine ASL.light rfl rfl (opAssign (v := .int _ _) rfl rfl) ?_)
      all_goals (refine ASL.done ?_)
      all_goals (refine AWP.block ?_)
      all_goals (refine AWP.loopL (α := Nat) (fun i => [(0, .int .i64 m), (1, .int .i64 s), (2, ints x), (3, ints y), (9, ints (iterL m y m)), (13, v53), (14, .int .i64 k2), (15, v61), (16, .int .i64 i)]) (fun i G => Own 1 G v53 ((mxUp (lpL m y k2) (boxMulL m (lpL m y k2) (iterL m y m)) i).map (AV.int .i64)) ∧ Own 1 G v61 ((boxMulL m (lpL m y k2) (iterL m y m)).map (AV.int .i64))) (fun i => m * m - i) (fun i => i ≤ m * m) 0 (by omega) ⟨rfl, rfl, rfl, rfl, rfl, rfl, rfl, rfl, rfl, trivial⟩ ⟨by rw [mxUp_0]; exact hP61, hO61⟩ ?_)
      rintro i3 G3 hI3 ⟨hO3, hW3⟩
      have hwl3 := boxMulL_len m (lpL m y k2) (iterL m y m); have hul3 := mxUp_len (z := (lpL m y k2)) (w := (boxMulL m (lpL m y k2) (iterL m y m))) (by rw [hz3, hwl3]) (i := i3) (by omega)
      all_goals (refine AWP.seq ?_)
      all_goals (refine AWP.seqR rfl ?_)
      all_goals (refine ASL.light rfl rfl (opMove (v := .int _ _) rfl rfl) ?_)
      all_goals (refine ASL.light rfl rfl (opMove (v := .int _ _) rfl rfl) ?_)
      all_goals (refine ASL.light rfl rfl (opMove (v := .int _ _) rfl rfl) ?_)
      all_goals (first | (refine ASL.light rfl rfl (opMul rfl rfl rfl (by first | omega | (simp; omega))) ?_) | (refine ASL.light rfl rfl (opInt rfl rfl rfl rfl) ?_))
      all_goals (refine ASL.dec rfl rfl (opInt rfl rfl rfl rfl) ?_ ?_ <;> intro h66)
      all_goals (refine ASL.done ?_)
      all_goals (first
        | (
          refine AWP.condF rfl ?_
          all_goals (refine AWP.exit ?_))
        | (
          refine AWP.condT rfl ?_
          all_goals (refine AWP.skip ?_)
          all_goals (refine AWP.seq ?_)
          all_goals (refine AWP.block ?_)
          all_goals (refine AWP.lastD [(0, false), (1, false), (2, false), (3, false), (4, false), (5, false), (6, false), (7, false), (8, false), (9, false), (10, false), (11, false), (12, true)] mixed (by kernel_rfl) rfl ?_)
          all_goals (first | (refine ARL.light0 rfl rfl rfl (opMove (v := v51) rfl rfl) ?_) | (refine ARL.light0 rfl rfl rfl (opMove (v := v20) rfl rfl) ?_) | (refine ARL.light0 rfl rfl rfl (opMove (v := v22) rfl rfl) ?_) | (refine ARL.light0 rfl rfl rfl (opMove (v := v31) rfl rfl) ?_) | (refine ARL.light0 rfl rfl rfl (opMove (v := v53) rfl rfl) ?_) | (refine ARL.light0 rfl rfl rfl (opMove (v := v61) rfl rfl) ?_) | (refine ARL.light0 rfl rfl rfl (opMove (v := .list _ _) rfl rfl) ?_) | (refine ARL.light0 rfl rfl rfl (opMove (v := .slc _ _ _ _) rfl rfl) ?_) | (refine ARL.light0 rfl rfl rfl (opMove (v := .nil) rfl rfl) ?_))
          all_goals (refine ARL.light0 rfl rfl rfl (opMove (v := .int _ _) rfl rfl) ?_)
          all_goals (first | (refine ARL.light0 rfl rfl rfl (opMove (v := v51) rfl rfl) ?_) | (refine ARL.light0 rfl rfl rfl (opMove (v := v20) rfl rfl) ?_) | (refine ARL.light0 rfl rfl rfl (opMove (v := v22) rfl rfl) ?_) | (refine ARL.light0 rfl rfl rfl (opMove (v := v31) rfl rfl) ?_) | (refine ARL.light0 rfl rfl rfl (opMove (v := v53) rfl rfl) ?_) | (refine ARL.light0 rfl rfl rfl (opMove (v := v61) rfl rfl) ?_) | (refine ARL.light0 rfl rfl rfl (opMove (v := .list _ _) rfl rfl) ?_) | (refine ARL.light0 rfl rfl rfl (opMove (v := .slc _ _ _ _) rfl rfl) ?_) | (refine ARL.light0 rfl rfl rfl (opMove (v := .nil) rfl rfl) ?_))
          all_goals (refine ARL.light0 rfl rfl rfl (opMove (v := .int _ _) rfl rfl) ?_)
          all_goals (first | (refine ARL.light0 rfl rfl rfl (opIndexOwn rfl elemA_22 sizeA_3 rfl (by assumption) rfl (by first | omega | (simp; omega))) ?_) | (refine ARL.light0 rfl rfl rfl (opIndexOwnI rfl elemA_22 sizeA_3 rfl (by assumption) rfl (by first | omega | (simp; omega)) (by first | omega | (simp; omega))) ?_) | (refine ARL.light0 rfl rfl rfl (opIndexIN rfl rfl rfl elemA_22 sizeA_3 (by first | omega | (simp; omega))) ?_) | (refine ARL.light0 rfl rfl rfl (opIndexI rfl rfl rfl elemA_22 sizeA_3 (by first | omega | (simp; omega)) (by first | omega | (simp; omega))) ?_) | (refine ARL.light0 rfl rfl rfl (opIndexN rfl rfl rfl elemA_22 sizeA_3 (by first | omega | (simp; omega)) rfl) ?_) | (refine ARL.light0 rfl rfl rfl (opIndexMap rfl rfl rfl elemA_22 sizeA_3 (by first | omega | (simp; omega)) (by first | omega | (simp; omega)) rfl) ?_) | (refine ARL.light0 rfl rfl rfl (opIndexAddrN rfl rfl rfl elemA_22 sizeA_3 (by first | omega | (simp; omega))) ?_) | (refine ARL.light0 rfl rfl rfl (opIndexAddr rfl rfl rfl elemA_22 sizeA_3 (by first | omega | (simp; omega)) (by first | omega | (simp; omega)) rfl) ?_))
          all_goals (first | (refine ARL.light0 rfl rfl rfl (opLoadR (v := .int _ _) rfl aggA_3 rfl rfl) ?_) | (refine ARL.light rfl rfl rfl (opLoadRowI rfl aggA_3 rfl (by assumption) (by first | omega | (simp; omega))) (Own.alive' (by assumption)) ?_) | (refine ARL.light rfl rfl rfl (opLoadOwnI rfl aggA_3 rfl (by assumption) (by first | first | omega | (simp; omega) | (simp; first | omega | (simp; omega)))) (by intro b_ hb_; rw [List.mem_singleton.mp hb_]; exact Own.alive (by assumption) (by first | omega | (simp; omega))) ?_))
          all_goals (first | (refine ARL.light0 rfl rfl rfl (opMove (v := v51) rfl rfl) ?_) | (refine ARL.light0 rfl rfl rfl (opMove (v := v20) rfl rfl) ?_) | (refine ARL.light0 rfl rfl rfl (opMove (v := v22) rfl rfl) ?_) | (refine ARL.light0 rfl rfl rfl (opMove (v := v31) rfl rfl) ?_) | (refine ARL.light0 rfl rfl rfl (opMove (v := v53) rfl rfl) ?_) | (refine ARL.light0 rfl rfl rfl (opMove (v := v61) rfl rfl) ?_) | (refine ARL.light0 rfl rfl rfl (opMove (v := .list _ _) rfl rfl) ?_) | (refine ARL.light0 rfl rfl rfl (opMove (v := .slc _ _ _ _) rfl rfl) ?_) | (refine ARL.light0 rfl rfl rfl (opMove (v := .nil) rfl rfl) ?_))
          all_goals (refine ARL.light0 rfl rfl rfl (opMove (v := .int _ _) rfl rfl) ?_)
          all_goals (first | (refine ARL.light0 rfl rfl rfl (opIndexOwn rfl elemA_22 sizeA_3 rfl (by assumption) rfl (by first | omega | (simp; omega))) ?_) | (refine ARL.light0 rfl rfl rfl (opIndexOwnI rfl elemA_22 sizeA_3 rfl (by assumption) rfl (by first | omega | (simp; omega)) (by first | omega | (simp; omega))) ?_) | (refine ARL.light0 rfl rfl rfl (opIndexIN rfl rfl rfl elemA_22 sizeA_3 (by first | omega | (simp; omega))) ?_) | (refine ARL.light0 rfl rfl rfl (opIndexI rfl rfl rfl elemA_22 sizeA_3 (by first | omega | (simp; omega)) (by first | omega | (simp; omega))) ?_) | (refine ARL.light0 rfl rfl rfl (opIndexN rfl rfl rfl elemA_22 sizeA_3 (by first | omega | (simp; omega)) rfl) ?_) | (refine ARL.light0 rfl rfl rfl (opIndexMap rfl rfl rfl elemA_22 sizeA_3 (by first | omega | (simp; omega)) (by first | omega | (simp; omega)) rfl) ?_) | (refine ARL.light0 rfl rfl rfl (opIndexAddrN rfl rfl rfl elemA_22 sizeA_3 (by first | omega | (simp; omega))) ?_) | (refine ARL.light0 rfl rfl rfl (opIndexAddr rfl rfl rfl elemA_22 sizeA_3 (by first | omega | (simp; omega)) (by first | omega | (simp; omega)) rfl) ?_))
          all_goals (first | (refine ARL.light0 rfl rfl rfl (opLoadR (v := .int _ _) rfl aggA_3 rfl rfl) ?_) | (refine ARL.light rfl rfl rfl (opLoadRowI rfl aggA_3 rfl (by assumption) (by first | omega | (simp; omega))) (Own.alive' (by assumption)) ?_) | (refine ARL.light rfl rfl rfl (opLoadOwnI rfl aggA_3 rfl (by assumption) (by first | first | omega | (simp; omega) | (simp; first | omega | (simp; omega)))) (by intro b_ hb_; rw [List.mem_singleton.mp hb_]; exact Own.alive (by assumption) (by first | omega | (simp; omega))) ?_))
          all_goals (first | (refine ARL.callP rfl rfl rfl rfl call_106 (spec_l1Max _ _) rfl ?_; rintro _ rfl) | (refine ARL.callRP rfl rfl rfl rfl rfl call_106 (by exact ⟨by first | exact RA.same _ | exact RA.own (by assumption), by first | exact RA.same _ | exact RA.own (by assumption), trivial⟩) (spec_l1Max _ _) (by constructor) ?_))
          all_goals (first | (refine ARL.light0 rfl rfl rfl (opIndexOwn rfl elemA_22 sizeA_3 rfl (by assumption) rfl (by first | omega | (simp; omega))) ?_) | (refine ARL.light0 rfl rfl rfl (opIndexOwnI rfl elemA_22 sizeA_3 rfl (by assumption) rfl (by first | omega | (simp; omega)) (by first | omega | (simp; omega))) ?_) | (refine ARL.light0 rfl rfl rfl (opIndexIN rfl rfl rfl elemA_22 sizeA_3 (by first | omega | (simp; omega))) ?_) | (refine ARL.light0 rfl rfl rfl (opIndexI rfl rfl rfl elemA_22 sizeA_3 (by first | omega | (simp; omega)) (by first | omega | (simp; omega))) ?_) | (refine ARL.light0 rfl rfl rfl (opIndexN rfl rfl rfl elemA_22 sizeA_3 (by first | omega | (simp; omega)) rfl) ?_) | (refine ARL.light0 rfl rfl rfl (opIndexMap rfl rfl rfl elemA_22 sizeA_3 (by first | omega | (simp; omega)) (by first | omega | (simp; omega)) rfl) ?_) | (refine ARL.light0 rfl rfl rfl (opIndexAddrN rfl rfl rfl elemA_22 sizeA_3 (by first | omega | (simp; omega))) ?_) | (refine ARL.light0 rfl rfl rfl (opIndexAddr rfl rfl rfl elemA_22 sizeA_3 (by first | omega | (simp; omega)) (by first | omega | (simp; omega)) rfl) ?_))
          all_goals (first | (refine ARL.store rfl rfl rfl rfl (opStoreRowI rfl sizeA_3 rfl rfl (by assumption) (by first | first | omega | (simp; omega) | (simp; first | omega | (simp; omega))) ?_); rintro Gs2 hOs2 hBs2) | (refine ARL.store rfl rfl rfl rfl (opStoreOwnI rfl sizeA_3 rfl rfl (by assumption) (by first | first | omega | (simp; omega) | (simp; first | omega | (simp; omega))) ?_); rintro Gs2 hOs2 hBs2))
          all_goals (refine ARL.done ?_)
          all_goals (refine AWP.lastR rfl ?_)
          all_goals (refine ASL.light rfl rfl (opMove (v := .int _ _) rfl rfl) ?_)
          all_goals (first | (refine ASL.light rfl rfl (opAdd rfl rfl rfl (by first | omega | (simp; omega))) ?_) | (refine ASL.light rfl rfl (opInt rfl rfl rfl rfl) ?_))
          all_goals (refine ASL.light rfl rfl (opAssign (v := .int _ _) rfl rfl) ?_)
          all_goals (refine ASL.done ?_)
          all_goals (exact ⟨i3 + 1, by omega, by omega, ⟨rfl, rfl, rfl, rfl, rfl, rfl, rfl, rfl, rfl, trivial⟩, by have h := hOs2; rw [mxUp_step (by rw [hz3, hwl3]) (by omega) rfl] at h; exact h, Own.beside hW3 hBs2 hA61⟩)))
      all_goals (refine AWP.lastR rfl ?_)
      all_goals (refine ASL.light rfl rfl (opMove (v := .int _ _) rfl rfl) ?_)
      all_goals (first | (refine ASL.light rfl rfl (opAdd rfl rfl rfl (by first | omega | (simp; omega))) ?_) | (refine ASL.light rfl rfl (opInt rfl rfl rfl rfl) ?_))
      all_goals (refine ASL.light rfl rfl (opAssign (v := .int _ _) rfl rfl) ?_)
      all_goals (refine ASL.done ?_)
      all_goals (exact ⟨k2 + 1, by omega, by omega, ⟨rfl, rfl, rfl, rfl, rfl, rfl, rfl, trivial⟩, by have h := hO3; rw [show i3 = (lpL m y k2).length by omega, mxUp_end (by rw [hz3, hwl3])] at h; exact h⟩)))
  all_goals (refine AWP.seq ?_)
  all_goals ((have hk : 2 = k2 := by omega); subst hk; have hL2 := (lpL_bx hy 2).1; refine AWP.freezeRow 13 rfl hO2 (G := fun _ => none) (fun c x h => by cases h) ?_)
  all_goals (refine AWP.seqR rfl ?_)
  all_goals (refine ASL.light rfl rfl (opAssign (v := .int _ _) rfl rfl) ?_)
  all_goals (refine ASL.done ?_)
  all_goals (refine AWP.block ?_)
  all_goals (refine AWP.loopL (α := Nat) (fun i => [(0, .int .i64 m), (1, .int .i64 s), (2, ints x), (3, ints y), (9, ints (iterL m y m)), (13, ints (lpL m y 2)), (17, .int .i64 i)]) (fun i G => True) (fun i => m - i) (fun i => i ≤ m ∧ ∀ k, k < i → hasB s k = true → ¬ hitS m x (iterL m y m) (loop2 m y) k) 0 ⟨by omega, fun k hk => by omega⟩ ⟨rfl, rfl, rfl, rfl, rfl, rfl, rfl, trivial⟩ trivial ?_)
  rintro i G4 hI4 _
  all_goals (refine AWP.seq ?_)
  all_goals (refine AWP.seqR rfl ?_)
  all_goals (refine ASL.light rfl rfl (opMove (v := .int _ _) rfl rfl) ?_)
  all_goals (refine ASL.light rfl rfl (opMove (v := .int _ _) rfl rfl) ?_)
  all_goals (refine ASL.dec rfl rfl (opInt rfl rfl rfl rfl) ?_ ?_ <;> intro h83)
  all_goals (refine ASL.done ?_)
  all_goals (first
    | (
      refine AWP.condF rfl ?_
      all_goals (refine AWP.exit ?_))
    | (
      refine AWP.condT rfl ?_
      all_goals (refine AWP.skip ?_)
      all_goals (refine AWP.seq ?_)
      all_goals (refine AWP.block ?_)
      all_goals (refine AWP.seqR rfl ?_)
      all_goals (refine ASL.light rfl rfl (opAssign (v := .int _ _) rfl rfl) ?_)
      all_goals (refine ASL.done ?_)
      all_goals (refine AWP.block ?_)
      all_goals (refine AWP.loopL (α := Nat) (fun p => [(0, .int .i64 m), (1, .int .i64 s), (2, ints x), (3, ints y), (9, ints (iterL m y m)), (13, ints (lpL m y 2)), (17, .int .i64 i), (18, .int .i64 p)]) (fun p G => True) (fun p => m - p) (fun p => p ≤ m ∧ ∀ k, k < p → ¬ hitP m x (iterL m y m) (loop2 m y) i k) 0 ⟨by omega, fun k hk => by omega⟩ ⟨rfl, rfl, rfl, rfl, rfl, rfl, rfl, rfl, trivial⟩ trivial ?_)
      rintro p G5 hI5 _
      all_goals (refine AWP.seq ?_)
      all_goals (refine AWP.seqR rfl ?_)
      all_goals (refine ASL.light rfl rfl (opMove (v := .int _ _) rfl rfl) ?_)
      all_goals (refine ASL.light rfl rfl (opMove (v := .int _ _) rfl rfl) ?_)
      all_goals (refine ASL.dec rfl rfl (opInt rfl rfl rfl rfl) ?_ ?_ <;> intro h88)
      all_goals (refine ASL.light rfl rfl (opMove (v := .bool _) rfl rfl) ?_)
      all_goals (first | (refine ASL.off rfl rfl ?_) | (refine ASL.light rfl rfl (opMove (v := .int _ _) rfl rfl) ?_))
      all_goals (first | (refine ASL.off rfl rfl ?_) | (refine ASL.light rfl rfl (opMove (v := .int _ _) rfl rfl) ?_))
      all_goals (first | (refine ASL.off rfl rfl ?_) | (refine ASL.callB rfl rfl rfl rfl call_120 (spec_l1Has _ _ (by first | omega | (simp; omega)) (by first | omega | (simp; omega))) rfl ?_ ?_ <;> intro h92) | (refine ASL.callRB rfl rfl rfl rfl call_120 (by exact ⟨by first | exact RA.same _ | exact RA.own (by assumption), by first | exact RA.same _ | exact RA.own (by assumption), trivial⟩) (spec_l1Has _ _ (by first | omega | (simp; omega)) (by first | omega | (simp; omega))) ?_ ?_ <;> intro h92))
      all_goals (refine ASL.light rfl rfl (opPick (v := .bool _) rfl rfl rfl) ?_)
      all_goals (refine ASL.done ?_)
      all_goals (first
        | (
          refine AWP.condF rfl ?_
          all_goals (refine AWP.exit ?_))
        | (
          refine AWP.condT rfl ?_
          all_goals (refine AWP.skip ?_)
          all_goals (refine AWP.seq ?_)
          all_goals (refine AWP.block ?_)
          all_goals (refine AWP.seqR rfl ?_)
          all_goals (refine ASL.light rfl rfl (opAssign (v := .int _ _) rfl rfl) ?_)
          all_goals (refine ASL.done ?_)
          all_goals (refine AWP.block ?_)
          all_goals (refine AWP.loopL (α := Nat) (fun q => [(0, .int .i64 m), (1, .int .i64 s), (2, ints x), (3, ints y), (9, ints (iterL m y m)), (13, ints (lpL m y 2)), (17, .int .i64 i), (18, .int .i64 p), (19, .int .i64 q)]) (fun q G => True) (fun q => m - q) (fun q => q ≤ m ∧ ∀ k, k < q → ¬ hitQ m (iterL m y m) (loop2 m y) p k) 0 ⟨by omega, fun k hk => by omega⟩ ⟨rfl, rfl, rfl, rfl, rfl, rfl, rfl, rfl, rfl, trivial⟩ trivial ?_)
          rintro q G6 hI6 _
          all_goals (refine AWP.seq ?_)
          all_goals (refine AWP.seqR rfl ?_)
          all_goals (refine ASL.light rfl rfl (opMove (v := .int _ _) rfl rfl) ?_)
          all_goals (refine ASL.light rfl rfl (opMove (v := .int _ _) rfl rfl) ?_)
          all_goals (refine ASL.dec rfl rfl (opInt rfl rfl rfl rfl) ?_ ?_ <;> intro h98)
          all_goals (refine ASL.light rfl rfl (opMove (v := .bool _) rfl rfl) ?_)
          all_goals (first | (refine ASL.off rfl rfl ?_) | (refine ASL.light rfl rfl (opMove (v := v51) rfl rfl) ?_) | (refine ASL.light rfl rfl (opMove (v := v20) rfl rfl) ?_) | (refine ASL.light rfl rfl (opMove (v := v22) rfl rfl) ?_) | (refine ASL.light rfl rfl (opMove (v := v31) rfl rfl) ?_) | (refine ASL.light rfl rfl (opMove (v := v53) rfl rfl) ?_) | (refine ASL.light rfl rfl (opMove (v := v61) rfl rfl) ?_) | (refine ASL.light rfl rfl (opMove (v := .list _ _) rfl rfl) ?_) | (refine ASL.light rfl rfl (opMove (v := .slc _ _ _ _) rfl rfl) ?_) | (refine ASL.light rfl rfl (opMove (v := .nil) rfl rfl) ?_))
          all_goals (first | (refine ASL.off rfl rfl ?_) | (refine ASL.light rfl rfl (opMove (v := .int _ _) rfl rfl) ?_))
          all_goals (first | (refine ASL.off rfl rfl ?_) | (refine ASL.light rfl rfl (opMove (v := .int _ _) rfl rfl) ?_))
          all_goals (first | (refine ASL.off rfl rfl ?_) | (have hqa := pq4 hb (show i < m by omega) (show p < m by omega); refine ASL.light rfl rfl (opMul rfl rfl rfl (by first | omega | (simp; omega))) ?_) | (have hqa := pq4 hb (show i < m by omega) (show p < m by omega); refine ASL.light rfl rfl (opInt rfl rfl rfl rfl) ?_))
          all_goals (first | (refine ASL.off rfl rfl ?_) | (refine ASL.light rfl rfl (opMove (v := .int _ _) rfl rfl) ?_))
          all_goals (first | (refine ASL.off rfl rfl ?_) | (refine ASL.light rfl rfl (opAdd rfl rfl rfl (by first | omega | (simp; omega))) ?_) | (refine ASL.light rfl rfl (opInt rfl rfl rfl rfl) ?_))
          all_goals (first | (refine ASL.off rfl rfl ?_) | (refine ASL.light rfl rfl (opIndexOwn rfl elemA_22 sizeA_3 rfl (by assumption) rfl (by first | omega | (simp; omega))) ?_) | (refine ASL.light rfl rfl (opIndexOwnI rfl elemA_22 sizeA_3 rfl (by assumption) rfl (by first | omega | (simp; omega)) (by first | omega | (simp; omega))) ?_) | (refine ASL.light rfl rfl (opIndexIN rfl rfl rfl elemA_22 sizeA_3 (by first | omega | (simp; omega))) ?_) | (refine ASL.light rfl rfl (opIndexI rfl rfl rfl elemA_22 sizeA_3 (by first | omega | (simp; omega)) (by first | omega | (simp; omega))) ?_) | (refine ASL.light rfl rfl (opIndexN rfl rfl rfl elemA_22 sizeA_3 (by first | omega | (simp; omega)) rfl) ?_) | (refine ASL.light rfl rfl (opIndexMap rfl rfl rfl elemA_22 sizeA_3 (by first | omega | (simp; omega)) (by first | omega | (simp; omega)) rfl) ?_) | (refine ASL.light rfl rfl (opIndexAddrN rfl rfl rfl elemA_22 sizeA_3 (by first | omega | (simp; omega))) ?_) | (refine ASL.light rfl rfl (opIndexAddr rfl rfl rfl elemA_22 sizeA_3 (by first | omega | (simp; omega)) (by first | omega | (simp; omega)) rfl) ?_))
          all_goals (first | (refine ASL.off rfl rfl ?_) | (refine ASL.light rfl rfl (opLoadR (v := .int _ _) rfl aggA_3 rfl rfl) ?_) | (refine ASL.light rfl rfl (opLoadRowI rfl aggA_3 rfl (by assumption) (by first | omega | (simp; omega))) ?_) | (refine ASL.light rfl rfl (opLoadOwnI rfl aggA_3 rfl (by assumption) (by first | first | omega | (simp; omega) | (simp; first | omega | (simp; omega)))) ?_))
          all_goals (first | (refine ASL.off rfl rfl ?_) | (refine ASL.dec rfl rfl (opInt rfl rfl rfl rfl) ?_ ?_ <;> intro h108))
          all_goals (refine ASL.light rfl rfl (opPick (v := .bool _) rfl rfl rfl) ?_)
          all_goals (refine ASL.done ?_)
          all_goals (first
            | (
              refine AWP.condF rfl ?_
              all_goals (refine AWP.exit ?_))
            | (
              refine AWP.condT rfl ?_
              all_goals (refine AWP.skip ?_)
              all_goals (refine AWP.seq ?_)
              all_goals (refine AWP.block ?_)
              all_goals (refine AWP.seqR rfl ?_)
              all_goals (refine ASL.light rfl rfl (opMove (v := .int _ _) rfl rfl) ?_)
              all_goals (refine ASL.light rfl rfl (opMove (v := .int _ _) rfl rfl) ?_)
              all_goals (refine ASL.dec rfl rfl (opInt rfl rfl rfl rfl) ?_ ?_ <;> intro h114)
              all_goals (refine ASL.light rfl rfl (opMove (v := .bool _) rfl rfl) ?_)
              all_goals (first | (refine ASL.off rfl rfl ?_) | (refine ASL.light rfl rfl (opMove (v := v51) rfl rfl) ?_) | (refine ASL.light rfl rfl (opMove (v := v20) rfl rfl) ?_) | (refine ASL.light rfl rfl (opMove (v := v22) rfl rfl) ?_) | (refine ASL.light rfl rfl (opMove (v := v31) rfl rfl) ?_) | (refine ASL.light rfl rfl (opMove (v := v53) rfl rfl) ?_) | (refine ASL.light rfl rfl (opMove (v := v61) rfl rfl) ?_) | (refine ASL.light rfl rfl (opMove (v := .list _ _) rfl rfl) ?_) | (refine ASL.light rfl rfl (opMove (v := .slc _ _ _ _) rfl rfl) ?_) | (refine ASL.light rfl rfl (opMove (v := .nil) rfl rfl) ?_))
              all_goals (first | (refine ASL.off rfl rfl ?_) | (refine ASL.light rfl rfl (opMove (v := .int _ _) rfl rfl) ?_))
              all_goals (first | (refine ASL.off rfl rfl ?_) | (refine ASL.light rfl rfl (opMove (v := .int _ _) rfl rfl) ?_))
              all_goals (first | (refine ASL.off rfl rfl ?_) | (have hqb := pq4 hb (show p < m by omega) (show q < m by omega); refine ASL.light rfl rfl (opMul rfl rfl rfl (by first | omega | (simp; omega))) ?_) | (have hqb := pq4 hb (show p < m by omega) (show q < m by omega); refine ASL.light rfl rfl (opInt rfl rfl rfl rfl) ?_))
              all_goals (first | (refine ASL.off rfl rfl ?_) | (refine ASL.light rfl rfl (opMove (v := .int _ _) rfl rfl) ?_))
              all_goals (first | (refine ASL.off rfl rfl ?_) | (refine ASL.light rfl rfl (opAdd rfl rfl rfl (by first | omega | (simp; omega))) ?_) | (refine ASL.light rfl rfl (opInt rfl rfl rfl rfl) ?_))
              all_goals (first | (refine ASL.off rfl rfl ?_) | (refine ASL.light rfl rfl (opIndexOwn rfl elemA_22 sizeA_3 rfl (by assumption) rfl (by first | omega | (simp; omega))) ?_) | (refine ASL.light rfl rfl (opIndexOwnI rfl elemA_22 sizeA_3 rfl (by assumption) rfl (by first | omega | (simp; omega)) (by first | omega | (simp; omega))) ?_) | (refine ASL.light rfl rfl (opIndexIN rfl rfl rfl elemA_22 sizeA_3 (by first | omega | (simp; omega))) ?_) | (refine ASL.light rfl rfl (opIndexI rfl rfl rfl elemA_22 sizeA_3 (by first | omega | (simp; omega)) (by first | omega | (simp; omega))) ?_) | (refine ASL.light rfl rfl (opIndexN rfl rfl rfl elemA_22 sizeA_3 (by first | omega | (simp; omega)) rfl) ?_) | (refine ASL.light rfl rfl (opIndexMap rfl rfl rfl elemA_22 sizeA_3 (by first | omega | (simp; omega)) (by first | omega | (simp; omega)) rfl) ?_) | (refine ASL.light rfl rfl (opIndexAddrN rfl rfl rfl elemA_22 sizeA_3 (by first | omega | (simp; omega))) ?_) | (refine ASL.light rfl rfl (opIndexAddr rfl rfl rfl elemA_22 sizeA_3 (by first | omega | (simp; omega)) (by first | omega | (simp; omega)) rfl) ?_))
              all_goals (first | (refine ASL.off rfl rfl ?_) | (refine ASL.light rfl rfl (opLoadR (v := .int _ _) rfl aggA_3 rfl rfl) ?_) | (refine ASL.light rfl rfl (opLoadRowI rfl aggA_3 rfl (by assumption) (by first | omega | (simp; omega))) ?_) | (refine ASL.light rfl rfl (opLoadOwnI rfl aggA_3 rfl (by assumption) (by first | first | omega | (simp; omega) | (simp; first | omega | (simp; omega)))) ?_))
              all_goals (first | (refine ASL.off rfl rfl ?_) | (refine ASL.dec rfl rfl (opInt rfl rfl rfl rfl) ?_ ?_ <;> intro h124))
              all_goals (refine ASL.light rfl rfl (opPick (v := .bool _) rfl rfl rfl) ?_)
              all_goals (refine ASL.light rfl rfl (opMove (v := .bool _) rfl rfl) ?_)
              all_goals (first | (refine ASL.off rfl rfl ?_) | (refine ASL.light rfl rfl (opMove (v := v51) rfl rfl) ?_) | (refine ASL.light rfl rfl (opMove (v := v20) rfl rfl) ?_) | (refine ASL.light rfl rfl (opMove (v := v22) rfl rfl) ?_) | (refine ASL.light rfl rfl (opMove (v := v31) rfl rfl) ?_) | (refine ASL.light rfl rfl (opMove (v := v53) rfl rfl) ?_) | (refine ASL.light rfl rfl (opMove (v := v61) rfl rfl) ?_) | (refine ASL.light rfl rfl (opMove (v := .list _ _) rfl rfl) ?_) | (refine ASL.light rfl rfl (opMove (v := .slc _ _ _ _) rfl rfl) ?_) | (refine ASL.light rfl rfl (opMove (v := .nil) rfl rfl) ?_))
              all_goals (first | (refine ASL.off rfl rfl ?_) | (refine ASL.light rfl rfl (opMove (v := .int _ _) rfl rfl) ?_))
              all_goals (first | (refine ASL.off rfl rfl ?_) | (refine ASL.light rfl rfl (opMove (v := .int _ _) rfl rfl) ?_))
              all_goals (first | (refine ASL.off rfl rfl ?_) | (have hqc := pq4 hb (show q < m by omega) (show q < m by omega); refine ASL.light rfl rfl (opMul rfl rfl rfl (by first | omega | (simp; omega))) ?_) | (have hqc := pq4 hb (show q < m by omega) (show q < m by omega); refine ASL.light rfl rfl (opInt rfl rfl rfl rfl) ?_))
              all_goals (first | (refine ASL.off rfl rfl ?_) | (refine ASL.light rfl rfl (opMove (v := .int _ _) rfl rfl) ?_))
              all_goals (first | (refine ASL.off rfl rfl ?_) | (refine ASL.light rfl rfl (opAdd rfl rfl rfl (by first | omega | (simp; omega))) ?_) | (refine ASL.light rfl rfl (opInt rfl rfl rfl rfl) ?_))
              all_goals (first | (refine ASL.off rfl rfl ?_) | (refine ASL.light rfl rfl (opIndexOwn rfl elemA_22 sizeA_3 rfl (by assumption) rfl (by first | omega | (simp; omega))) ?_) | (refine ASL.light rfl rfl (opIndexOwnI rfl elemA_22 sizeA_3 rfl (by assumption) rfl (by first | omega | (simp; omega)) (by first | omega | (simp; omega))) ?_) | (refine ASL.light rfl rfl (opIndexIN rfl rfl rfl elemA_22 sizeA_3 (by first | omega | (simp; omega))) ?_) | (refine ASL.light rfl rfl (opIndexI rfl rfl rfl elemA_22 sizeA_3 (by first | omega | (simp; omega)) (by first | omega | (simp; omega))) ?_) | (refine ASL.light rfl rfl (opIndexN rfl rfl rfl elemA_22 sizeA_3 (by first | omega | (simp; omega)) rfl) ?_) | (refine ASL.light rfl rfl (opIndexMap rfl rfl rfl elemA_22 sizeA_3 (by first | omega | (simp; omega)) (by first | omega | (simp; omega)) rfl) ?_) | (refine ASL.light rfl rfl (opIndexAddrN rfl rfl rfl elemA_22 sizeA_3 (by first | omega | (simp; omega))) ?_) | (refine ASL.light rfl rfl (opIndexAddr rfl rfl rfl elemA_22 sizeA_3 (by first | omega | (simp; omega)) (by first | omega | (simp; omega)) rfl) ?_))
              all_goals (first | (refine ASL.off rfl rfl ?_) | (refine ASL.light rfl rfl (opLoadR (v := .int _ _) rfl aggA_3 rfl rfl) ?_) | (refine ASL.light rfl rfl (opLoadRowI rfl aggA_3 rfl (by assumption) (by first | omega | (simp; omega))) ?_) | (refine ASL.light rfl rfl (opLoadOwnI rfl aggA_3 rfl (by assumption) (by first | first | omega | (simp; omega) | (simp; first | omega | (simp; omega)))) ?_))
              all_goals (first | (refine ASL.off rfl rfl ?_) | (refine ASL.dec rfl rfl (opInt rfl rfl rfl rfl) ?_ ?_ <;> intro h135))
              all_goals (refine ASL.light rfl rfl (opPick (v := .bool _) rfl rfl rfl) ?_)
              all_goals (refine ASL.done ?_)
              all_goals (first
                | (
                  refine AWP.condT rfl ?_
                  all_goals (refine AWP.seqR rfl ?_)
                  all_goals (refine ASL.light rfl rfl (opAssign (v := .bool _) rfl rfl) ?_)
                  all_goals (refine ASL.done ?_)
                  all_goals (refine AWP.ret ?_)
                  all_goals (repeat with_reducible refine QThen.ret1 ?_)
                  all_goals (first | exact QRet.bool rfl rfl rfl (takes_yes (i := i) (by omega) (by assumption) ⟨p, by omega, by assumption, q, by omega, (by first | exact .inl (by omega) | exact .inr (by assumption)), by assumption⟩) | exact QRet.bool rfl rfl rfl (takes_no (fun i2 hi2 hb2 hh => hI4.2 i2 (by omega) hb2 hh))))
                | (
                  refine AWP.condF rfl ?_
                  all_goals (refine AWP.skip ?_)))
              all_goals (refine AWP.lastR rfl ?_)
              all_goals (refine ASL.light rfl rfl (opMove (v := .int _ _) rfl rfl) ?_)
              all_goals (first | (refine ASL.light rfl rfl (opAdd rfl rfl rfl (by first | omega | (simp; omega))) ?_) | (refine ASL.light rfl rfl (opInt rfl rfl rfl rfl) ?_))
              all_goals (refine ASL.light rfl rfl (opAssign (v := .int _ _) rfl rfl) ?_)
              all_goals (refine ASL.done ?_)
              all_goals (exact ⟨q + 1, ⟨by omega, upTo_next hI6.2 (fun g => by obtain ⟨g1, g2⟩ := g; first | exact absurd g2 (by assumption) | (unfold ent at g1; omega))⟩, by omega, ⟨rfl, rfl, rfl, rfl, rfl, rfl, rfl, rfl, rfl, trivial⟩, trivial⟩)))
          all_goals (refine AWP.lastR rfl ?_)
          all_goals (refine ASL.light rfl rfl (opMove (v := .int _ _) rfl rfl) ?_)
          all_goals (first | (refine ASL.light rfl rfl (opAdd rfl rfl rfl (by first | omega | (simp; omega))) ?_) | (refine ASL.light rfl rfl (opInt rfl rfl rfl rfl) ?_))
          all_goals (refine ASL.light rfl rfl (opAssign (v := .int _ _) rfl rfl) ?_)
          all_goals (refine ASL.done ?_)
          all_goals (exact ⟨p + 1, ⟨by omega, upTo_next hI5.2 (fun g => by first | (obtain ⟨q2, hq2, g2⟩ := g.2; exact hI6.2 q2 (by omega) g2) | (have g1 := g.1; unfold ent at g1; omega))⟩, by omega, ⟨rfl, rfl, rfl, rfl, rfl, rfl, rfl, rfl, trivial⟩, trivial⟩)))
      all_goals (refine AWP.lastR rfl ?_)
      all_goals (refine ASL.light rfl rfl (opMove (v := .int _ _) rfl rfl) ?_)
      all_goals (first | (refine ASL.light rfl rfl (opAdd rfl rfl rfl (by first | omega | (simp; omega))) ?_) | (refine ASL.light rfl rfl (opInt rfl rfl rfl rfl) ?_))
      all_goals (refine ASL.light rfl rfl (opAssign (v := .int _ _) rfl rfl) ?_)
      all_goals (refine ASL.done ?_)
      all_goals (exact ⟨i + 1, ⟨by omega, upTo_next hI4.2 (fun hb2 => by rintro ⟨p2, hp2, g⟩; first | exact hI5.2 p2 (by omega) g | (simp_all; done))⟩, by omega, ⟨rfl, rfl, rfl, rfl, rfl, rfl, rfl, trivial⟩, trivial⟩)))
  all_goals (refine AWP.seqR rfl ?_)
  all_goals (refine ASL.light rfl rfl (opAssign (v := .bool _) rfl rfl) ?_)
  all_goals (refine ASL.done ?_)
  all_goals (refine AWP.ret ?_)
  all_goals (repeat with_reducible refine QThen.ret1 ?_)
  all_goals (first | exact QRet.bool rfl rfl rfl (takes_yes (i := i) (by omega) (by assumption) ⟨p, by omega, by assumption, q, by omega, (by first | exact .inl (by omega) | exact .inr (by assumption)), by assumption⟩) | exact QRet.bool rfl rfl rfl (takes_no (fun i2 hi2 hb2 hh => hI4.2 i2 (by omega) hb2 hh)))

set_option maxRecDepth 10000 in
theorem spec_BoxTakes (a : AutoD) (x y : List Int) (hl : a.es.length ≤ 1048576) (hx : x.length ≤ 1048576) (hy : y.length ≤ 1048576) : PC Try.prog 47 [autoA a, ints x, ints y] (fun v => v = .bool (boxTakesF a x y)) := by
  refine PC.enter Try.func47 rfl Try.ntmps47 (by simp) ?_
  obtain ⟨l, n, s, es⟩ := a; dsimp only at hl
  all_goals (refine AWP.seqR rfl ?_)
  all_goals (refine ASL.boxI rfl rfl rfl rfl rfl ?_)
  all_goals (refine ASL.light rfl rfl (opAssign (v := .bool _) rfl rfl) ?_)
  all_goals (refine ASL.done ?_)
  all_goals (refine AWP.seqR rfl ?_)
  all_goals (refine ASL.light rfl rfl (opLoadRA rfl aggA_35 sizeA_35 rfl (by first | exact Nat.le_of_ble_eq_true rfl | (simp; done)) rfl) ?_)
  all_goals (refine ASL.callD rfl rfl rfl rfl call_91 (spec_l14Right _ (by omega)) rfl ?_ ?_ <;> intro h8)
  all_goals (refine ASL.light rfl rfl (opMove (v := .bool _) rfl rfl) ?_)
  all_goals (first | (refine ASL.off rfl rfl ?_) | (refine ASL.light rfl rfl (opFieldAddrR rfl fieldA_35_1 rfl rfl) ?_) | (refine ASL.light rfl rfl (opFieldAddr rfl fieldA_35_1 rfl rfl) ?_))
  all_goals (first | (refine ASL.off rfl rfl ?_) | (refine ASL.light rfl rfl (opLoadR (v := .int _ _) rfl aggA_3 rfl rfl) ?_) | (refine ASL.light rfl rfl (opLoadOwnI rfl aggA_3 rfl (by assumption) (by first | omega | (simp; omega))) ?_))
  all_goals (first | (refine ASL.off rfl rfl ?_) | (refine ASL.light rfl rfl (opMove (v := .list _ _) rfl rfl) ?_) | (refine ASL.light rfl rfl (opMove (v := .slc _ _ _ _) rfl rfl) ?_) | (refine ASL.light rfl rfl (opMove (v := .nil) rfl rfl) ?_))
  all_goals (first | (refine ASL.off rfl rfl ?_) | (refine ASL.callB rfl rfl rfl rfl call_15 (spec_BoxOk _ _ (by omega)) rfl ?_ ?_ <;> intro h13))
  all_goals (refine ASL.light rfl rfl (opPick (v := .bool _) rfl rfl rfl) ?_)
  all_goals (refine ASL.light rfl rfl (opMove (v := .bool _) rfl rfl) ?_)
  all_goals (first | (refine ASL.off rfl rfl ?_) | (refine ASL.light rfl rfl (opFieldAddrR rfl fieldA_35_1 rfl rfl) ?_) | (refine ASL.light rfl rfl (opFieldAddr rfl fieldA_35_1 rfl rfl) ?_))
  all_goals (first | (refine ASL.off rfl rfl ?_) | (refine ASL.light rfl rfl (opLoadR (v := .int _ _) rfl aggA_3 rfl rfl) ?_) | (refine ASL.light rfl rfl (opLoadOwnI rfl aggA_3 rfl (by assumption) (by first | omega | (simp; omega))) ?_))
  all_goals (first | (refine ASL.off rfl rfl ?_) | (refine ASL.light rfl rfl (opMove (v := .list _ _) rfl rfl) ?_) | (refine ASL.light rfl rfl (opMove (v := .slc _ _ _ _) rfl rfl) ?_) | (refine ASL.light rfl rfl (opMove (v := .nil) rfl rfl) ?_))
  all_goals (first | (refine ASL.off rfl rfl ?_) | (refine ASL.callB rfl rfl rfl rfl call_15 (spec_BoxOk _ _ (by omega)) rfl ?_ ?_ <;> intro h19))
  all_goals (refine ASL.light rfl rfl (opPick (v := .bool _) rfl rfl rfl) ?_)
  all_goals (refine ASL.light rfl rfl (opMove (v := .bool _) rfl rfl) ?_)
  all_goals (first | (refine ASL.off rfl rfl ?_) | (refine ASL.light rfl rfl (opFieldAddrR rfl fieldA_35_1 rfl rfl) ?_) | (refine ASL.light rfl rfl (opFieldAddr rfl fieldA_35_1 rfl rfl) ?_))
  all_goals (first | (refine ASL.off rfl rfl ?_) | (refine ASL.light rfl rfl (opLoadR (v := .int _ _) rfl aggA_3 rfl rfl) ?_) | (refine ASL.light rfl rfl (opLoadOwnI rfl aggA_3 rfl (by assumption) (by first | omega | (simp; omega))) ?_))
  all_goals (first | (refine ASL.off rfl rfl ?_) | (refine ASL.light rfl rfl (opFieldAddrR rfl fieldA_35_2 rfl rfl) ?_) | (refine ASL.light rfl rfl (opFieldAddr rfl fieldA_35_2 rfl rfl) ?_))
  all_goals (first | (refine ASL.off rfl rfl ?_) | (refine ASL.light rfl rfl (opLoadR (v := .int _ _) rfl aggA_3 rfl rfl) ?_) | (refine ASL.light rfl rfl (opLoadOwnI rfl aggA_3 rfl (by assumption) (by first | omega | (simp; omega))) ?_))
  all_goals (first | (refine ASL.off rfl rfl ?_) | (refine ASL.light rfl rfl (opMove (v := .list _ _) rfl rfl) ?_) | (refine ASL.light rfl rfl (opMove (v := .slc _ _ _ _) rfl rfl) ?_) | (refine ASL.light rfl rfl (opMove (v := .nil) rfl rfl) ?_))
  all_goals (first | (refine ASL.off rfl rfl ?_) | (refine ASL.light rfl rfl (opMove (v := .list _ _) rfl rfl) ?_) | (refine ASL.light rfl rfl (opMove (v := .slc _ _ _ _) rfl rfl) ?_) | (refine ASL.light rfl rfl (opMove (v := .nil) rfl rfl) ?_))
  all_goals (first | (refine ASL.off rfl rfl ?_) | (have hk := (by assumption : autoOk ⟨l, n, s, es⟩ = true ∧ 1 ≤ n ∧ n ≤ 4); have hk0 := hk.1; obtain ⟨m, rfl, hbm, _⟩ := boxOk_inv (n := n) (x := x) (by assumption); have hs : 0 ≤ s ∧ s < ((2 ^ m : Nat) : Int) := (by have h := (autoOk_inv hk0).1.2.2.1; simpa using h); refine ASL.callB rfl rfl rfl rfl call_94 (spec_l14Takes m s x y hbm hs (boxOk_bx (by assumption)) (boxOk_bx (by assumption))) rfl ?_ ?_ <;> intro h28))
  all_goals (refine ASL.light rfl rfl (opPick (v := .bool _) rfl rfl rfl) ?_)
  all_goals (refine ASL.light rfl rfl (opAssign (v := .bool _) rfl rfl) ?_)
  all_goals (refine ASL.done ?_)
  all_goals (refine AWP.ret ?_)
  all_goals (repeat with_reducible refine QThen.ret1 ?_)
  all_goals (exact QRet.bool rfl rfl rfl (by first | exact tF0 (by assumption) | exact tF1 (by assumption) | exact tF2 (by assumption) | exact tF3 (by assumption) | exact tF4 hk0 (by assumption) (by assumption) (by assumption)))

set_option maxRecDepth 10000 in
theorem impl_BoxTakes (a : AutoD) (x y : List Int) (hl : a.es.length ≤ 1048576) (hx : x.length ≤ 1048576) (hy : y.length ≤ 1048576) : PC Try.prog 29 [autoA a, ints x, ints y] (fun v => v = .bool (boxTakesF a x y)) := by
  refine PC.enter Try.func29 rfl Try.ntmps29 (by simp) ?_
  obtain ⟨l, n, s, es⟩ := a; dsimp only at hl
  all_goals (refine AWP.seqR rfl ?_)
  all_goals (refine ASL.boxI rfl rfl rfl rfl rfl ?_)
  all_goals (refine ASL.light rfl rfl (opAssign (v := .bool _) rfl rfl) ?_)
  all_goals (refine ASL.done ?_)
  all_goals (refine AWP.seqR rfl ?_)
  all_goals (refine ASL.light rfl rfl (opLoadRA rfl aggA_35 sizeA_35 rfl (by first | exact Nat.le_of_ble_eq_true rfl | (simp; done)) rfl) ?_)
  all_goals (refine ASL.callB rfl rfl rfl rfl call_75 (impl_AutoOk _ (by omega)) rfl ?_ ?_ <;> intro h8)
  all_goals (refine ASL.light rfl rfl (opMove (v := .bool _) rfl rfl) ?_)
  all_goals (first | (refine ASL.off rfl rfl ?_) | (refine ASL.light rfl rfl (opFieldAddrR rfl fieldA_35_1 rfl rfl) ?_) | (refine ASL.light rfl rfl (opFieldAddr rfl fieldA_35_1 rfl rfl) ?_))
  all_goals (first | (refine ASL.off rfl rfl ?_) | (refine ASL.light rfl rfl (opLoadR (v := .int _ _) rfl aggA_3 rfl rfl) ?_) | (refine ASL.light rfl rfl (opLoadOwnI rfl aggA_3 rfl (by assumption) (by first | omega | (simp; omega))) ?_))
  all_goals (first | (refine ASL.off rfl rfl ?_) | (refine ASL.light rfl rfl (opMove (v := .list _ _) rfl rfl) ?_) | (refine ASL.light rfl rfl (opMove (v := .slc _ _ _ _) rfl rfl) ?_) | (refine ASL.light rfl rfl (opMove (v := .nil) rfl rfl) ?_))
  all_goals (first | (refine ASL.off rfl rfl ?_) | (refine ASL.callB rfl rfl rfl rfl call_17 (impl_BoxOk _ _ (by omega)) rfl ?_ ?_ <;> intro h13))
  all_goals (refine ASL.light rfl rfl (opPick (v := .bool _) rfl rfl rfl) ?_)
  all_goals (refine ASL.light rfl rfl (opMove (v := .bool _) rfl rfl) ?_)
  all_goals (first | (refine ASL.off rfl rfl ?_) | (refine ASL.light rfl rfl (opFieldAddrR rfl fieldA_35_1 rfl rfl) ?_) | (refine ASL.light rfl rfl (opFieldAddr rfl fieldA_35_1 rfl rfl) ?_))
  all_goals (first | (refine ASL.off rfl rfl ?_) | (refine ASL.light rfl rfl (opLoadR (v := .int _ _) rfl aggA_3 rfl rfl) ?_) | (refine ASL.light rfl rfl (opLoadOwnI rfl aggA_3 rfl (by assumption) (by first | omega | (simp; omega))) ?_))
  all_goals (first | (refine ASL.off rfl rfl ?_) | (refine ASL.light rfl rfl (opMove (v := .list _ _) rfl rfl) ?_) | (refine ASL.light rfl rfl (opMove (v := .slc _ _ _ _) rfl rfl) ?_) | (refine ASL.light rfl rfl (opMove (v := .nil) rfl rfl) ?_))
  all_goals (first | (refine ASL.off rfl rfl ?_) | (refine ASL.callB rfl rfl rfl rfl call_17 (impl_BoxOk _ _ (by omega)) rfl ?_ ?_ <;> intro h19))
  all_goals (refine ASL.light rfl rfl (opPick (v := .bool _) rfl rfl rfl) ?_)
  all_goals (refine ASL.light rfl rfl (opMove (v := .bool _) rfl rfl) ?_)
  all_goals (first | (refine ASL.off rfl rfl ?_) | (refine ASL.light rfl rfl (opLoadRA rfl aggA_35 sizeA_35 rfl (by first | exact Nat.le_of_ble_eq_true rfl | (simp; done)) rfl) ?_))
  all_goals (first | (refine ASL.off rfl rfl ?_) | (refine ASL.light rfl rfl (opMove (v := .list _ _) rfl rfl) ?_) | (refine ASL.light rfl rfl (opMove (v := .slc _ _ _ _) rfl rfl) ?_) | (refine ASL.light rfl rfl (opMove (v := .nil) rfl rfl) ?_))
  all_goals (first | (refine ASL.off rfl rfl ?_) | (refine ASL.light rfl rfl (opMove (v := .list _ _) rfl rfl) ?_) | (refine ASL.light rfl rfl (opMove (v := .slc _ _ _ _) rfl rfl) ?_) | (refine ASL.light rfl rfl (opMove (v := .nil) rfl rfl) ?_))
  all_goals (first | (refine ASL.off rfl rfl ?_) | (have hk0 := (by assumption : autoOk ⟨l, n, s, es⟩ = true); obtain ⟨m, rfl, hbm, _⟩ := boxOk_inv (n := n) (x := x) (by assumption); have hs : 0 ≤ s ∧ s < ((2 ^ m : Nat) : Int) := (by have h := (autoOk_inv hk0).1.2.2.1; simpa using h); refine ASL.callB rfl rfl rfl rfl call_76 (impl_boxTakes l s m es x y hbm hs (boxOk_bx (by assumption)) (boxOk_bx (by assumption))) rfl ?_ ?_ <;> intro h25))
  all_goals (refine ASL.light rfl rfl (opPick (v := .bool _) rfl rfl rfl) ?_)
  all_goals (refine ASL.light rfl rfl (opAssign (v := .bool _) rfl rfl) ?_)
  all_goals (refine ASL.done ?_)
  all_goals (refine AWP.ret ?_)
  all_goals (repeat with_reducible refine QThen.ret1 ?_)
  all_goals (exact QRet.bool rfl rfl rfl (by first | exact tF0 (by assumption) | exact tF1 (by assumption) | exact tF2 (by assumption) | exact tF3 (by assumption) | exact tF4 hk0 (by assumption) (by assumption) (by assumption)))

set_option maxRecDepth 10000 in
theorem laws_FnExactBoxTakes (a : AutoD) (x y : List Int) (hx : a.es.length ≤ 9223372036854775807) (hx1 : x.length ≤ 9223372036854775807) (hy1 : y.length ≤ 9223372036854775807) : PC Try.prog 10 [autoA a, ints x, ints y] (fun v => v = .bool true) := by
  refine PC.enter Try.func10 rfl Try.ntmps10 (by simp) ?_
  by_cases hz : a.es.length ≤ 1048576
  all_goals (refine AWP.seqR rfl ?_)
  all_goals (refine ASL.boxI rfl rfl rfl rfl rfl ?_)
  all_goals (refine ASL.light rfl rfl (opAssign (v := .bool _) rfl rfl) ?_)
  all_goals (refine ASL.done ?_)
  all_goals (refine AWP.seq ?_)
  all_goals (refine AWP.seqR rfl ?_)
  all_goals (first | (refine ASL.light rfl rfl (opMove (v := .list _ _) rfl rfl) ?_) | (refine ASL.light rfl rfl (opMove (v := .slc _ _ _ _) rfl rfl) ?_) | (refine ASL.light rfl rfl (opMove (v := .nil) rfl rfl) ?_))
  all_goals (first | (refine ASL.light rfl rfl (opLenMap rfl rfl rfl lenT_22 rfl) ?_) | (refine ASL.light rfl rfl (opLenOf rfl rfl rfl lenT_22 rfl rfl) ?_))
  all_goals (refine ASL.dec rfl rfl (opInt rfl rfl rfl rfl) ?_ ?_ <;> intro h15)
  all_goals (refine ASL.done ?_)
  all_goals (first
    | (
      refine AWP.condT rfl ?_
      all_goals (refine AWP.seqR rfl ?_)
      all_goals (refine ASL.light rfl rfl (opAssign (v := .bool _) rfl rfl) ?_)
      all_goals (refine ASL.done ?_)
      all_goals (refine AWP.ret ?_)
      all_goals (repeat with_reducible refine QThen.ret1 ?_)
      all_goals (exact QRet.bool rfl rfl rfl (by first | rfl | (exfalso; first | omega | contradiction | (simp_all; done)))))
    | (
      refine AWP.condF rfl ?_
      all_goals (refine AWP.skip ?_)
      all_goals (refine AWP.seq ?_)
      all_goals (refine AWP.seqR rfl ?_)
      all_goals (first | (refine ASL.light rfl rfl (opMove (v := .list _ _) rfl rfl) ?_) | (refine ASL.light rfl rfl (opMove (v := .slc _ _ _ _) rfl rfl) ?_) | (refine ASL.light rfl rfl (opMove (v := .nil) rfl rfl) ?_))
      all_goals (first | (refine ASL.light rfl rfl (opLenMap rfl rfl rfl lenT_22 rfl) ?_) | (refine ASL.light rfl rfl (opLenOf rfl rfl rfl lenT_22 rfl rfl) ?_))
      all_goals (refine ASL.dec rfl rfl (opInt rfl rfl rfl rfl) ?_ ?_ <;> intro h18)
      all_goals (refine ASL.done ?_)
      all_goals (first
        | (
          refine AWP.condT rfl ?_
          all_goals (refine AWP.seqR rfl ?_)
          all_goals (refine ASL.light rfl rfl (opAssign (v := .bool _) rfl rfl) ?_)
          all_goals (refine ASL.done ?_)
          all_goals (refine AWP.ret ?_)
          all_goals (repeat with_reducible refine QThen.ret1 ?_)
          all_goals (exact QRet.bool rfl rfl rfl (by first | rfl | (exfalso; first | omega | contradiction | (simp_all; done)))))
        | (
          refine AWP.condF rfl ?_
          all_goals (refine AWP.skip ?_)
          all_goals (refine AWP.seqR rfl ?_)
          all_goals (refine ASL.light rfl rfl (opAssign (v := .int _ _) rfl rfl) ?_)
          all_goals (refine ASL.done ?_)
          all_goals (refine AWP.seqR rfl ?_)
          all_goals (refine ASL.light rfl rfl (opLoadRA rfl aggA_47 sizeA_47 rfl (by first | exact Nat.le_of_ble_eq_true rfl | (simp; done)) rfl) ?_)
          all_goals (refine ASL.light rfl rfl (opMove (v := .int _ _) rfl rfl) ?_)
          all_goals (first | (refine ASL.callP rfl rfl rfl rfl call_37 (laws_szAuto_no _ _ (by omega) (by omega)) rfl ?_; rintro _ rfl) | (refine ASL.callP rfl rfl rfl rfl call_37 (laws_szAuto_yes _ _ (by omega) (by omega) (by omega)) rfl ?_; rintro _ rfl))
          all_goals (refine ASL.light rfl rfl (opAssign (v := .int _ _) rfl rfl) ?_)
          all_goals (refine ASL.done ?_)
          all_goals (refine AWP.seq ?_)
          all_goals (refine AWP.seqR rfl ?_)
          all_goals (refine ASL.light rfl rfl (opMove (v := .int _ _) rfl rfl) ?_)
          all_goals (refine ASL.dec rfl rfl (opInt rfl rfl rfl rfl) ?_ ?_ <;> intro h23)
          all_goals (refine ASL.done ?_)
          all_goals (first
            | (
              refine AWP.condT rfl ?_
              all_goals (refine AWP.seqR rfl ?_)
              all_goals (refine ASL.light rfl rfl (opAssign (v := .bool _) rfl rfl) ?_)
              all_goals (refine ASL.done ?_)
              all_goals (refine AWP.ret ?_)
              all_goals (repeat with_reducible refine QThen.ret1 ?_)
              all_goals (exact QRet.bool rfl rfl rfl (by first | rfl | (exfalso; first | omega | contradiction | (simp_all; done)))))
            | (
              refine AWP.condF rfl ?_
              all_goals (refine AWP.skip ?_)
              all_goals (refine AWP.seqR rfl ?_)
              all_goals (refine ASL.light rfl rfl (opLoadRA rfl aggA_47 sizeA_47 rfl (by first | exact Nat.le_of_ble_eq_true rfl | (simp; done)) rfl) ?_)
              all_goals (refine ASL.callP rfl rfl rfl rfl call_40 (laws_toAuto _ (by omega)) rfl ?_; rintro _ rfl)
              all_goals (first | (refine ASL.light rfl rfl (opMove (v := .list _ _) rfl rfl) ?_) | (refine ASL.light rfl rfl (opMove (v := .slc _ _ _ _) rfl rfl) ?_) | (refine ASL.light rfl rfl (opMove (v := .nil) rfl rfl) ?_))
              all_goals (refine ASL.callP rfl rfl rfl rfl call_16 (PO.list (laws_toIntS_o _ (by omega))) rfl ?_; rintro _ rfl)
              all_goals (first | (refine ASL.light rfl rfl (opMove (v := .list _ _) rfl rfl) ?_) | (refine ASL.light rfl rfl (opMove (v := .slc _ _ _ _) rfl rfl) ?_) | (refine ASL.light rfl rfl (opMove (v := .nil) rfl rfl) ?_))
              all_goals (refine ASL.callP rfl rfl rfl rfl call_16 (PO.list (laws_toIntS_o _ (by omega))) rfl ?_; rintro _ rfl)
              all_goals (refine ASL.callB rfl rfl rfl rfl call_47 (spec_BoxTakes _ _ _ (by omega) (by omega) (by omega)) rfl ?_ ?_ <;> intro h30)
              all_goals (refine ASL.light rfl rfl (opAssign (v := .bool _) rfl rfl) ?_)
              all_goals (refine ASL.done ?_)
              all_goals (refine AWP.seqR rfl ?_)
              all_goals (refine ASL.light rfl rfl (opLoadRA rfl aggA_47 sizeA_47 rfl (by first | exact Nat.le_of_ble_eq_true rfl | (simp; done)) rfl) ?_)
              all_goals (refine ASL.callP rfl rfl rfl rfl call_40 (laws_toAuto _ (by omega)) rfl ?_; rintro _ rfl)
              all_goals (refine ASL.heavy1 rfl rfl (opAllocAt rfl zeroA_35 ?_); rintro b9 G9 hT9 hK9 hN9)
              all_goals (refine ASL.store rfl rfl (opStoreAtA rfl sizeA_35 rfl rfl hT9 rfl (by first | rfl | (simp [cells]; done)) (by repeat' (first | exact rfl | exact Own.one (by assumption) | refine allCons ?_ ?_)) (Nat.le_of_ble_eq_true rfl) ?_); rintro Gs1 hT9 hB1)
              all_goals (refine ASL.done ?_)
              all_goals (refine AWP.seqR rfl ?_)
              all_goals (first | (refine ASL.light rfl rfl (opMove (v := .list _ _) rfl rfl) ?_) | (refine ASL.light rfl rfl (opMove (v := .slc _ _ _ _) rfl rfl) ?_) | (refine ASL.light rfl rfl (opMove (v := .nil) rfl rfl) ?_))
              all_goals (refine ASL.callP rfl rfl rfl rfl call_16 (PO.list (laws_toIntS_o _ (by omega))) rfl ?_; rintro _ rfl)
              all_goals (first | (refine ASL.light rfl rfl (opAssign (v := .list _ _) rfl rfl) ?_) | (refine ASL.light rfl rfl (opAssign (v := .slc _ _ _ _) rfl rfl) ?_) | (refine ASL.light rfl rfl (opAssign (v := .nil) rfl rfl) ?_))
              all_goals (refine ASL.done ?_)
              all_goals (refine AWP.seqR rfl ?_)
              all_goals (first | (refine ASL.light rfl rfl (opMove (v := .list _ _) rfl rfl) ?_) | (refine ASL.light rfl rfl (opMove (v := .slc _ _ _ _) rfl rfl) ?_) | (refine ASL.light rfl rfl (opMove (v := .nil) rfl rfl) ?_))
              all_goals (refine ASL.callP rfl rfl rfl rfl call_16 (PO.list (laws_toIntS_o _ (by omega))) rfl ?_; rintro _ rfl)
              all_goals (first | (refine ASL.light rfl rfl (opAssign (v := .list _ _) rfl rfl) ?_) | (refine ASL.light rfl rfl (opAssign (v := .slc _ _ _ _) rfl rfl) ?_) | (refine ASL.light rfl rfl (opAssign (v := .nil) rfl rfl) ?_))
              all_goals (refine ASL.done ?_)
              all_goals (refine AWP.seqR rfl ?_)
              all_goals (refine ASL.light rfl rfl (opLoadAtA rfl aggA_35 sizeA_35 rfl hT9 (Nat.le_of_ble_eq_true rfl)) ?_)
              all_goals (first | (refine ASL.light rfl rfl (opMove (v := .list _ _) rfl rfl) ?_) | (refine ASL.light rfl rfl (opMove (v := .slc _ _ _ _) rfl rfl) ?_) | (refine ASL.light rfl rfl (opMove (v := .nil) rfl rfl) ?_))
              all_goals (first | (refine ASL.light rfl rfl (opMove (v := .list _ _) rfl rfl) ?_) | (refine ASL.light rfl rfl (opMove (v := .slc _ _ _ _) rfl rfl) ?_) | (refine ASL.light rfl rfl (opMove (v := .nil) rfl rfl) ?_))
              all_goals (refine ASL.callB rfl rfl rfl rfl call_29 (impl_BoxTakes _ _ _ (by omega) (by omega) (by omega)) rfl ?_ ?_ <;> intro h40)
              all_goals (refine ASL.light rfl rfl (opAssign (v := .bool _) rfl rfl) ?_)
              all_goals (refine ASL.done ?_)
              all_goals (refine AWP.seq ?_)
              all_goals (refine AWP.seqR rfl ?_)
              all_goals (refine ASL.light rfl rfl (opMove (v := .bool _) rfl rfl) ?_)
              all_goals (refine ASL.light rfl rfl (opMove (v := .bool _) rfl rfl) ?_)
              all_goals (refine ASL.bool rfl rfl (opBoolEq rfl rfl rfl und_4 rfl) ?_ ?_ <;> intro h43)
              all_goals (refine ASL.done ?_)
              all_goals (first
                | (
                  refine AWP.condT rfl ?_
                  all_goals (refine AWP.seqR rfl ?_)
                  all_goals (refine ASL.light rfl rfl (opAssign (v := .bool _) rfl rfl) ?_)
                  all_goals (refine ASL.done ?_)
                  all_goals (refine AWP.ret ?_)
                  all_goals (repeat with_reducible refine QThen.ret1 ?_)
                  all_goals (exact QRet.bool rfl rfl rfl (by first | rfl | (exfalso; first | omega | contradiction | (simp_all; done)))))
                | (
                  refine AWP.condF rfl ?_
                  all_goals (refine AWP.skip ?_)
                  all_goals (refine AWP.seq ?_)
                  all_goals (refine AWP.seqD [(0, false), (1, false), (2, false), (3, false), (4, false)] mixed (by kernel_rfl) rfl ?_)
                  all_goals (refine ARL.light rfl rfl rfl (opLoadAtA rfl aggA_35 sizeA_35 rfl hT9 (Nat.le_of_ble_eq_true rfl)) (by intro b_ hb_; rw [List.mem_singleton.mp hb_]; exact At.alive hT9) ?_)
                  all_goals (refine ARL.light0 rfl rfl rfl (opLoadRA rfl aggA_47 sizeA_47 rfl (by first | exact Nat.le_of_ble_eq_true rfl | (simp; done)) rfl) ?_)
                  all_goals (refine ARL.callP rfl rfl rfl rfl call_40 (laws_toAuto _ (by omega)) rfl ?_; rintro _ rfl)
                  all_goals (refine ARL.callD rfl rfl rfl rfl call_43 (laws_eqAuto _ _ (by omega)) rfl ?_ ?_ <;> intro h47)
                  all_goals (refine ARL.light0 rfl rfl rfl (opNot rfl rfl) ?_)
                  all_goals (refine ARL.done ?_)
                  all_goals (first
                    | (
                      refine AWP.condT rfl ?_
                      all_goals (refine AWP.seqR rfl ?_)
                      all_goals (refine ASL.light rfl rfl (opAssign (v := .bool _) rfl rfl) ?_)
                      all_goals (refine ASL.done ?_)
                      all_goals (refine AWP.ret ?_)
                      all_goals (repeat with_reducible refine QThen.ret1 ?_)
                      all_goals (exact QRet.bool rfl rfl rfl (by first | rfl | (exfalso; first | omega | contradiction | (simp_all; done)))))
                    | (
                      refine AWP.condF rfl ?_
                      all_goals (refine AWP.skip ?_)
                      all_goals (refine AWP.seq ?_)
                      all_goals (refine AWP.seqR rfl ?_)
                      all_goals (first | (refine ASL.light rfl rfl (opMove (v := .list _ _) rfl rfl) ?_) | (refine ASL.light rfl rfl (opMove (v := .slc _ _ _ _) rfl rfl) ?_) | (refine ASL.light rfl rfl (opMove (v := .nil) rfl rfl) ?_))
                      all_goals (first | (refine ASL.light rfl rfl (opMove (v := .list _ _) rfl rfl) ?_) | (refine ASL.light rfl rfl (opMove (v := .slc _ _ _ _) rfl rfl) ?_) | (refine ASL.light rfl rfl (opMove (v := .nil) rfl rfl) ?_))
                      all_goals (refine ASL.callP rfl rfl rfl rfl call_16 (PO.list (laws_toIntS_o _ (by omega))) rfl ?_; rintro _ rfl)
                      all_goals (refine ASL.callD rfl rfl rfl rfl call_18 (laws_eqIntS _ _ (by omega)) rfl ?_ ?_ <;> intro h52)
                      all_goals (refine ASL.light rfl rfl (opNot rfl rfl) ?_)
                      all_goals (refine ASL.done ?_)
                      all_goals (first
                        | (
                          refine AWP.condT rfl ?_
                          all_goals (refine AWP.seqR rfl ?_)
                          all_goals (refine ASL.light rfl rfl (opAssign (v := .bool _) rfl rfl) ?_)
                          all_goals (refine ASL.done ?_)
                          all_goals (refine AWP.ret ?_)
                          all_goals (repeat with_reducible refine QThen.ret1 ?_)
                          all_goals (exact QRet.bool rfl rfl rfl (by first | rfl | (exfalso; first | omega | contradiction | (simp_all; done)))))
                        | (
                          refine AWP.condF rfl ?_
                          all_goals (refine AWP.skip ?_)
                          all_goals (refine AWP.seq ?_)
                          all_goals (refine AWP.seqR rfl ?_)
                          all_goals (first | (refine ASL.light rfl rfl (opMove (v := .list _ _) rfl rfl) ?_) | (refine ASL.light rfl rfl (opMove (v := .slc _ _ _ _) rfl rfl) ?_) | (refine ASL.light rfl rfl (opMove (v := .nil) rfl rfl) ?_))
                          all_goals (first | (refine ASL.light rfl rfl (opMove (v := .list _ _) rfl rfl) ?_) | (refine ASL.light rfl rfl (opMove (v := .slc _ _ _ _) rfl rfl) ?_) | (refine ASL.light rfl rfl (opMove (v := .nil) rfl rfl) ?_))
                          all_goals (refine ASL.callP rfl rfl rfl rfl call_16 (PO.list (laws_toIntS_o _ (by omega))) rfl ?_; rintro _ rfl)
                          all_goals (refine ASL.callD rfl rfl rfl rfl call_18 (laws_eqIntS _ _ (by omega)) rfl ?_ ?_ <;> intro h57)
                          all_goals (refine ASL.light rfl rfl (opNot rfl rfl) ?_)
                          all_goals (refine ASL.done ?_)
                          all_goals (first
                            | (
                              refine AWP.condT rfl ?_
                              all_goals (refine AWP.seqR rfl ?_)
                              all_goals (refine ASL.light rfl rfl (opAssign (v := .bool _) rfl rfl) ?_)
                              all_goals (refine ASL.done ?_)
                              all_goals (refine AWP.ret ?_)
                              all_goals (repeat with_reducible refine QThen.ret1 ?_)
                              all_goals (exact QRet.bool rfl rfl rfl (by first | rfl | (exfalso; first | omega | contradiction | (simp_all; done)))))
                            | (
                              refine AWP.condF rfl ?_
                              all_goals (refine AWP.skip ?_)
                              all_goals (refine AWP.seqR rfl ?_)
                              all_goals (refine ASL.light rfl rfl (opAssign (v := .bool _) rfl rfl) ?_)
                              all_goals (refine ASL.done ?_)
                              all_goals (refine AWP.ret ?_)
                              all_goals (repeat with_reducible refine QThen.ret1 ?_)
                              all_goals (exact QRet.bool rfl rfl rfl (by first | rfl | (exfalso; first | omega | contradiction | (simp_all; done))))))))))))))))))

end Go.Proofs.Ytcmlckgdhnffmaa
