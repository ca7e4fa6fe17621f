/- The contracts of some of the program's functions: A1. -/
import Derived.Test.YtcmlckgdhnffmaaE11
import Derived.Test.YtcmlckgdhnffmaaProg
namespace Go.Proofs.Ytcmlckgdhnffmaa
open Go Go.RowKit E
set_option linter.unusedVariables false

def boxOk (n : Int) (xs : List Int) : Bool := decide (1 ≤ n ∧ n ≤ 4) && decide ((xs.length : Int) = n * n) && xs.all fun x => decide (0 ≤ x ∧ x ≤ 2)
def okTo (xs : List Int) (i : Nat) : Prop := ∀ j, j < i → 0 ≤ xs.getD j 0 ∧ xs.getD j 0 ≤ 2
theorem okTo0 (xs : List Int) : okTo xs 0 := fun j h => by omega
theorem okTo1 {xs : List Int} {i : Nat} (h : okTo xs i) (k : 0 ≤ xs.getD i 0 ∧ xs.getD i 0 ≤ 2) : okTo xs (i + 1) := fun j hj => by
  by_cases e : j = i
  · subst e; exact k
  · exact h j (by omega)
theorem all_getD {xs : List Int} {p : Int → Bool} : xs.all p = true ↔ ∀ j, j < xs.length → p (xs.getD j 0) = true := by
  rw [List.all_eq_true]
  constructor
  · intro h j hj; have := h xs[j] (List.getElem_mem hj); simpa [hj] using this
  · intro h x hx; obtain ⟨j, hj, rfl⟩ := List.getElem_of_mem hx; have := h j hj; simpa [hj] using this
theorem boxOk_n {n : Int} {xs : List Int} (h : ¬ (1 ≤ n ∧ n ≤ 4)) : false = boxOk n xs := by simp [boxOk, h]
theorem boxOk_l {n : Int} {xs : List Int} (h : (xs.length : Int) ≠ n * n) : false = boxOk n xs := by simp [boxOk, h]
theorem boxOk_x {n : Int} {xs : List Int} {i : Nat} (hi : i < xs.length) (h : ¬ (0 ≤ xs.getD i 0 ∧ xs.getD i 0 ≤ 2)) : false = boxOk n xs := by
  have : (xs.all fun x => decide (0 ≤ x ∧ x ≤ 2)) = false := by
    rw [← Bool.not_eq_true, all_getD]; intro k; exact h (by simpa using k i hi)
  unfold boxOk; rw [this]; simp
theorem boxOk_y {n : Int} {xs : List Int} {i : Nat} (hi : ¬ i < xs.length) (h : okTo xs i) (h1 : 1 ≤ n ∧ n ≤ 4) (h2 : (xs.length : Int) = n * n) : true = boxOk n xs := by
  have : (xs.all fun x => decide (0 ≤ x ∧ x ≤ 2)) = true := by
    rw [all_getD]; intro j hj; simpa using h j (by omega)
  unfold boxOk; rw [this]; simp [h1, h2]
theorem sq4 {n : Int} (h : 1 ≤ n ∧ n ≤ 4) : 1 ≤ n * n ∧ n * n ≤ 16 := by
  have : n = 1 ∨ n = 2 ∨ n = 3 ∨ n = 4 := by omega
  rcases this with rfl | rfl | rfl | rfl <;> simp

theorem copy_step {xs : List Int} {i : Nat} (h : i < xs.length) : (xs.take i ++ List.replicate (xs.length - i) 0).set i (xs.getD i 0) = xs.take (i + 1) ++ List.replicate (xs.length - (i + 1)) 0 := by
  have h1 : (xs.take i).length = i := by simp; omega
  rw [List.set_append_right _ _ (by omega), h1, Nat.sub_self]
  have h2 : List.replicate (xs.length - i) (0 : Int) = 0 :: List.replicate (xs.length - (i + 1)) 0 := by
    rw [← List.replicate_succ]; congr 1; omega
  rw [h2, List.set_cons_zero, List.take_succ_eq_append_getElem h, List.append_assoc]
  simp [h]
def eqTo (xs ys : List Int) (i : Nat) : Prop := ∀ j, j < i → xs.getD j 0 = ys.getD j 0
theorem eqTo0 (xs ys : List Int) : eqTo xs ys 0 := fun j h => by omega
theorem eqTo1 {xs ys : List Int} {i : Nat} (h : eqTo xs ys i) (k : xs.getD i 0 = ys.getD i 0) : eqTo xs ys (i + 1) := fun j hj => by
  by_cases e : j = i
  · subst e; exact k
  · exact h j (by omega)
theorem eqL_len {xs ys : List Int} (h : (xs.length : Int) ≠ ys.length) : false = decide (xs = ys) := by
  symm; apply decide_eq_false; rintro rfl; exact h rfl
theorem eqL_at {xs ys : List Int} {i : Nat} (h1 : i < xs.length) (h2 : i < ys.length) (h : xs.getD i 0 ≠ ys.getD i 0) : false = decide (xs = ys) := by
  symm; apply decide_eq_false; rintro rfl; exact h rfl
theorem eqL_all {xs ys : List Int} {i : Nat} (h1 : i = xs.length) (h2 : xs.length = ys.length) (h : eqTo xs ys i) : true = decide (xs = ys) := by
  symm; apply decide_eq_true; apply List.ext_getElem h2
  intro j g1 g2; have := h j (by omega); simpa [g1, g2] using this

theorem call_65 : callable Try.prog 65 = true := by kernel_rfl
theorem call_63 : callable Try.prog 63 = true := by kernel_rfl
theorem lenT_22 : lenT Try.prog 22 = some false := by kernel_rfl
theorem elemA_22 : elemA Try.prog 22 = some 3 := by kernel_rfl
theorem sizeA_3 : sizeA Try.prog 3 = some 1 := by kernel_rfl
theorem aggA_3 : aggA Try.prog 3 = some false := by kernel_rfl
theorem call_64 : callable Try.prog 64 = true := by kernel_rfl
theorem bytesA_3 : bytesA Try.prog 3 = some 8 := by kernel_rfl
theorem zeroA_3 : zeroA Try.prog 3 = some (.int .i64 0) := by kernel_rfl
theorem mixed : Try.prog.follows .mixedOrders = true := by kernel_rfl
theorem call_16 : callable Try.prog 16 = true := by kernel_rfl
theorem call_15 : callable Try.prog 15 = true := by kernel_rfl
theorem call_17 : callable Try.prog 17 = true := by kernel_rfl
theorem und_4 : Try.prog.underlying 4 = some .bool := by kernel_rfl
theorem call_18 : callable Try.prog 18 = true := by kernel_rfl
set_option maxRecDepth 10000 in
theorem spec_l1In (x lo hi : Int) : PC Try.prog 63 [.int .i64 x, .int .i64 lo, .int .i64 hi] (fun v => v = .bool (decide (lo ≤ x ∧ x ≤ hi))) := by
  refine PC.enter Try.func63 rfl Try.ntmps63 (by simp) ?_
  all_goals (refine AWP.seqR rfl ?_)
  all_goals (refine ASL.light rfl rfl (opAssign (v := .bool _) rfl rfl) ?_)
  all_goals (refine ASL.done ?_)
  all_goals (refine AWP.seqR rfl ?_)
  all_goals (refine ASL.light rfl rfl (opMove (v := .int _ _) rfl rfl) ?_)
  all_goals (refine ASL.light rfl rfl (opMove (v := .int _ _) rfl rfl) ?_)
  all_goals (refine ASL.dec rfl rfl (opInt rfl rfl rfl rfl) ?_ ?_ <;> intro h9)
  all_goals (refine ASL.light rfl rfl (opMove (v := .bool _) rfl rfl) ?_)
  all_goals (first | (refine ASL.off rfl rfl ?_) | (refine ASL.light rfl rfl (opMove (v := .int _ _) rfl rfl) ?_))
  all_goals (first | (refine ASL.off rfl rfl ?_) | (refine ASL.light rfl rfl (opMove (v := .int _ _) rfl rfl) ?_))
  all_goals (first | (refine ASL.off rfl rfl ?_) | (refine ASL.light rfl rfl (opInt rfl rfl rfl rfl) ?_))
  all_goals (refine ASL.light rfl rfl (opPick (v := .bool _) rfl rfl rfl) ?_)
  all_goals (refine ASL.light rfl rfl (opAssign (v := .bool _) rfl rfl) ?_)
  all_goals (refine ASL.done ?_)
  all_goals (refine AWP.ret ?_)
  all_goals (repeat with_reducible refine QThen.ret1 ?_)
  all_goals (exact QRet.bool rfl rfl rfl (by (first | rfl | (rw [decide_eq_decide]; omega) | (exact (decide_eq_true (by omega)).symm) | (exact (decide_eq_false (by omega)).symm))))

set_option maxRecDepth 10000 in
theorem impl_inRange (x lo hi : Int) : PC Try.prog 65 [.int .i64 x, .int .i64 lo, .int .i64 hi] (fun v => v = .bool (decide (lo ≤ x ∧ x ≤ hi))) := by
  refine PC.enter Try.func65 rfl Try.ntmps65 (by simp) ?_
  all_goals (refine AWP.seqR rfl ?_)
  all_goals (refine ASL.light rfl rfl (opAssign (v := .bool _) rfl rfl) ?_)
  all_goals (refine ASL.done ?_)
  all_goals (refine AWP.seqR rfl ?_)
  all_goals (refine ASL.light rfl rfl (opMove (v := .int _ _) rfl rfl) ?_)
  all_goals (refine ASL.light rfl rfl (opMove (v := .int _ _) rfl rfl) ?_)
  all_goals (refine ASL.dec rfl rfl (opInt rfl rfl rfl rfl) ?_ ?_ <;> intro h9)
  all_goals (refine ASL.light rfl rfl (opMove (v := .bool _) rfl rfl) ?_)
  all_goals (first | (refine ASL.off rfl rfl ?_) | (refine ASL.light rfl rfl (opMove (v := .int _ _) rfl rfl) ?_))
  all_goals (first | (refine ASL.off rfl rfl ?_) | (refine ASL.light rfl rfl (opMove (v := .int _ _) rfl rfl) ?_))
  all_goals (first | (refine ASL.off rfl rfl ?_) | (refine ASL.light rfl rfl (opInt rfl rfl rfl rfl) ?_))
  all_goals (refine ASL.light rfl rfl (opPick (v := .bool _) rfl rfl rfl) ?_)
  all_goals (refine ASL.light rfl rfl (opAssign (v := .bool _) rfl rfl) ?_)
  all_goals (refine ASL.done ?_)
  all_goals (refine AWP.ret ?_)
  all_goals (repeat with_reducible refine QThen.ret1 ?_)
  all_goals (exact QRet.bool rfl rfl rfl (by (first | rfl | (rw [decide_eq_decide]; omega) | (exact (decide_eq_true (by omega)).symm) | (exact (decide_eq_false (by omega)).symm))))

set_option maxRecDepth 10000 in
theorem impl_isBoxed (x : Int) : PC Try.prog 64 [.int .i64 x] (fun v => v = .bool (decide (1 ≤ x ∧ x ≤ 4))) := by
  refine PC.enter Try.func64 rfl Try.ntmps64 (by simp) ?_
  all_goals (refine AWP.seqR rfl ?_)
  all_goals (refine ASL.light rfl rfl (opAssign (v := .bool _) rfl rfl) ?_)
  all_goals (refine ASL.done ?_)
  all_goals (refine AWP.seqR rfl ?_)
  all_goals (refine ASL.light rfl rfl (opMove (v := .int _ _) rfl rfl) ?_)
  all_goals (refine ASL.callD rfl rfl rfl rfl call_65 (impl_inRange _ _ _) rfl ?_ ?_ <;> intro h4)
  all_goals (refine ASL.light rfl rfl (opAssign (v := .bool _) rfl rfl) ?_)
  all_goals (refine ASL.done ?_)
  all_goals (refine AWP.ret ?_)
  all_goals (repeat with_reducible refine QThen.ret1 ?_)
  all_goals (exact QRet.bool rfl rfl rfl (by (first | rfl | (rw [decide_eq_decide]; omega) | (exact (decide_eq_true (by omega)).symm) | (exact (decide_eq_false (by omega)).symm))))

set_option maxRecDepth 10000 in
theorem spec_BoxOk (n : Int) (xs : List Int) (hx : xs.length ≤ 1048576) : PC Try.prog 15 [.int .i64 n, ints xs] (fun v => v = .bool (boxOk n xs)) := by
  refine PC.enter Try.func15 rfl Try.ntmps15 (by simp) ?_
  all_goals (refine AWP.seqR rfl ?_)
  all_goals (refine ASL.light rfl rfl (opAssign (v := .bool _) rfl rfl) ?_)
  all_goals (refine ASL.done ?_)
  all_goals (refine AWP.seq ?_)
  all_goals (refine AWP.seqR rfl ?_)
  all_goals (refine ASL.light rfl rfl (opMove (v := .int _ _) rfl rfl) ?_)
  all_goals (refine ASL.callD rfl rfl rfl rfl call_63 (spec_l1In _ _ _) rfl ?_ ?_ <;> intro h7)
  all_goals (refine ASL.light rfl rfl (opNot rfl rfl) ?_)
  all_goals (refine ASL.light rfl rfl (opMove (v := .bool _) rfl rfl) ?_)
  all_goals (first | (refine ASL.off rfl rfl ?_) | (refine ASL.light rfl rfl (opMove (v := .list _ _) rfl rfl) ?_) | (refine ASL.light rfl rfl (opMove (v := .slc _ _ _ _) rfl rfl) ?_) | (refine ASL.light rfl rfl (opMove (v := .nil) rfl rfl) ?_))
  all_goals (first | (refine ASL.off rfl rfl ?_) | (refine ASL.light rfl rfl (opLenMap rfl rfl rfl lenT_22 rfl) ?_) | (refine ASL.light rfl rfl (opLenOf rfl rfl rfl lenT_22 rfl rfl) ?_))
  all_goals (first | (refine ASL.off rfl rfl ?_) | (refine ASL.light rfl rfl (opMove (v := .int _ _) rfl rfl) ?_))
  all_goals (first | (refine ASL.off rfl rfl ?_) | (refine ASL.light rfl rfl (opMove (v := .int _ _) rfl rfl) ?_))
  all_goals (first | (refine ASL.off rfl rfl ?_) | (have hq := sq4 h7; refine ASL.light rfl rfl (opMul rfl rfl rfl (by omega)) ?_))
  all_goals (first | (refine ASL.off rfl rfl ?_) | (refine ASL.dec rfl rfl (opInt rfl rfl rfl rfl) ?_ ?_ <;> intro h15))
  all_goals (refine ASL.light rfl rfl (opPick (v := .bool _) rfl rfl rfl) ?_)
  all_goals (refine ASL.done ?_)
  all_goals (first
    | (
      refine AWP.condT rfl ?_
      all_goals (refine AWP.seqR rfl ?_)
      all_goals (refine ASL.light rfl rfl (opAssign (v := .bool _) rfl rfl) ?_)
      all_goals (refine ASL.done ?_)
      all_goals (refine AWP.ret ?_)
      all_goals (repeat with_reducible refine QThen.ret1 ?_)
      all_goals (exact QRet.bool rfl rfl rfl (by first | exact boxOk_n (by assumption) | exact boxOk_l (by assumption) | exact boxOk_x (i := i) (by omega) (by assumption) | exact boxOk_y (i := i) (by omega) hI0.2 (by assumption) (by omega))))
    | (
      refine AWP.condF rfl ?_
      all_goals (refine AWP.skip ?_)
      all_goals (refine AWP.seq ?_)
      all_goals (refine AWP.seqR rfl ?_)
      all_goals (refine ASL.light rfl rfl (opAssign (v := .int _ _) rfl rfl) ?_)
      all_goals (refine ASL.done ?_)
      all_goals (refine AWP.block ?_)
      all_goals (refine AWP.loopL (α := Nat) (fun i => [(0, .int .i64 n), (1, ints xs), (5, .int .i64 i)]) (fun i G => G = fun _ => none) (fun i => xs.length - i) (fun i => i ≤ xs.length ∧ okTo xs i) 0 ⟨by omega, okTo0 _⟩ ⟨rfl, rfl, rfl, trivial⟩ rfl ?_)
      rintro i G0 hI0 rfl
      all_goals (refine AWP.seq ?_)
      all_goals (refine AWP.seqR rfl ?_)
      all_goals (refine ASL.light rfl rfl (opMove (v := .int _ _) rfl rfl) ?_)
      all_goals (first | (refine ASL.light rfl rfl (opMove (v := .list _ _) rfl rfl) ?_) | (refine ASL.light rfl rfl (opMove (v := .slc _ _ _ _) rfl rfl) ?_) | (refine ASL.light rfl rfl (opMove (v := .nil) rfl rfl) ?_))
      all_goals (first | (refine ASL.light rfl rfl (opLenMap rfl rfl rfl lenT_22 rfl) ?_) | (refine ASL.light rfl rfl (opLenOf rfl rfl rfl lenT_22 rfl rfl) ?_))
      all_goals (refine ASL.dec rfl rfl (opInt rfl rfl rfl rfl) ?_ ?_ <;> intro h20)
      all_goals (refine ASL.done ?_)
      all_goals (first
        | (
          refine AWP.condF rfl ?_
          all_goals (refine AWP.exit ?_))
        | (
          refine AWP.condT rfl ?_
          all_goals (refine AWP.skip ?_)
          all_goals (refine AWP.seq ?_)
          all_goals (refine AWP.block ?_)
          all_goals (refine AWP.seqR rfl ?_)
          all_goals (first | (refine ASL.light rfl rfl (opMove (v := .list _ _) rfl rfl) ?_) | (refine ASL.light rfl rfl (opMove (v := .slc _ _ _ _) rfl rfl) ?_) | (refine ASL.light rfl rfl (opMove (v := .nil) rfl rfl) ?_))
          all_goals (refine ASL.light rfl rfl (opMove (v := .int _ _) rfl rfl) ?_)
          all_goals (first | (refine ASL.light rfl rfl (opIndexIN rfl rfl rfl elemA_22 sizeA_3 (by omega)) ?_) | (refine ASL.light rfl rfl (opIndexI rfl rfl rfl elemA_22 sizeA_3 (by omega) (by omega)) ?_) | (refine ASL.light rfl rfl (opIndexN rfl rfl rfl elemA_22 sizeA_3 (by omega) rfl) ?_) | (refine ASL.light rfl rfl (opIndexMap rfl rfl rfl elemA_22 sizeA_3 (by omega) (by omega) rfl) ?_) | (refine ASL.light rfl rfl (opIndexAddrN rfl rfl rfl elemA_22 sizeA_3 (by omega)) ?_) | (refine ASL.light rfl rfl (opIndexAddr rfl rfl rfl elemA_22 sizeA_3 (by omega) (by omega) rfl) ?_))
          all_goals (first | (refine ASL.light rfl rfl (opLoadR (v := .int _ _) rfl aggA_3 rfl rfl) ?_) | (refine ASL.light rfl rfl (opLoadOwnI rfl aggA_3 rfl (by assumption) (by first | omega | (simp; omega))) ?_))
          all_goals (refine ASL.callD rfl rfl rfl rfl call_63 (spec_l1In _ _ _) rfl ?_ ?_ <;> intro h27)
          all_goals (refine ASL.light rfl rfl (opNot rfl rfl) ?_)
          all_goals (refine ASL.done ?_)
          all_goals (first
            | (
              refine AWP.condT rfl ?_
              all_goals (refine AWP.seqR rfl ?_)
              all_goals (refine ASL.light rfl rfl (opAssign (v := .bool _) rfl rfl) ?_)
              all_goals (refine ASL.done ?_)
              all_goals (refine AWP.ret ?_)
              all_goals (repeat with_reducible refine QThen.ret1 ?_)
              all_goals (exact QRet.bool rfl rfl rfl (by first | exact boxOk_n (by assumption) | exact boxOk_l (by assumption) | exact boxOk_x (i := i) (by omega) (by assumption) | exact boxOk_y (i := i) (by omega) hI0.2 (by assumption) (by omega))))
            | (
              refine AWP.condF rfl ?_
              all_goals (refine AWP.skip ?_)))
          all_goals (refine AWP.lastR rfl ?_)
          all_goals (refine ASL.light rfl rfl (opMove (v := .int _ _) rfl rfl) ?_)
          all_goals (first | (refine ASL.light rfl rfl (opAdd rfl rfl rfl (by omega)) ?_) | (refine ASL.light rfl rfl (opInt rfl rfl rfl rfl) ?_))
          all_goals (refine ASL.light rfl rfl (opAssign (v := .int _ _) rfl rfl) ?_)
          all_goals (refine ASL.done ?_)
          all_goals (exact ⟨i + 1, ⟨by omega, okTo1 hI0.2 (by assumption)⟩, by omega, ⟨rfl, rfl, rfl, trivial⟩, rfl⟩)))
      all_goals (refine AWP.seqR rfl ?_)
      all_goals (refine ASL.light rfl rfl (opAssign (v := .bool _) rfl rfl) ?_)
      all_goals (refine ASL.done ?_)
      all_goals (refine AWP.ret ?_)
      all_goals (repeat with_reducible refine QThen.ret1 ?_)
      all_goals (exact QRet.bool rfl rfl rfl (by first | exact boxOk_n (by assumption) | exact boxOk_l (by assumption) | exact boxOk_x (i := i) (by omega) (by assumption) | exact boxOk_y (i := i) (by omega) hI0.2 (by assumption) (by omega)))))

set_option maxRecDepth 10000 in
theorem impl_BoxOk (n : Int) (xs : List Int) (hx : xs.length ≤ 1048576) : PC Try.prog 17 [.int .i64 n, ints xs] (fun v => v = .bool (boxOk n xs)) := by
  refine PC.enter Try.func17 rfl Try.ntmps17 (by simp) ?_
  all_goals (refine AWP.seqR rfl ?_)
  all_goals (refine ASL.light rfl rfl (opAssign (v := .bool _) rfl rfl) ?_)
  all_goals (refine ASL.done ?_)
  all_goals (refine AWP.seq ?_)
  all_goals (refine AWP.seqR rfl ?_)
  all_goals (refine ASL.light rfl rfl (opMove (v := .int _ _) rfl rfl) ?_)
  all_goals (refine ASL.callD rfl rfl rfl rfl call_64 (impl_isBoxed _) rfl ?_ ?_ <;> intro h8)
  all_goals (refine ASL.light rfl rfl (opNot rfl rfl) ?_)
  all_goals (refine ASL.light rfl rfl (opMove (v := .bool _) rfl rfl) ?_)
  all_goals (first | (refine ASL.off rfl rfl ?_) | (refine ASL.light rfl rfl (opMove (v := .list _ _) rfl rfl) ?_) | (refine ASL.light rfl rfl (opMove (v := .slc _ _ _ _) rfl rfl) ?_) | (refine ASL.light rfl rfl (opMove (v := .nil) rfl rfl) ?_))
  all_goals (first | (refine ASL.off rfl rfl ?_) | (refine ASL.light rfl rfl (opLenMap rfl rfl rfl lenT_22 rfl) ?_) | (refine ASL.light rfl rfl (opLenOf rfl rfl rfl lenT_22 rfl rfl) ?_))
  all_goals (first | (refine ASL.off rfl rfl ?_) | (refine ASL.light rfl rfl (opMove (v := .int _ _) rfl rfl) ?_))
  all_goals (first | (refine ASL.off rfl rfl ?_) | (refine ASL.light rfl rfl (opMove (v := .int _ _) rfl rfl) ?_))
  all_goals (first | (refine ASL.off rfl rfl ?_) | (have hq := sq4 h8; refine ASL.light rfl rfl (opMul rfl rfl rfl (by omega)) ?_))
  all_goals (first | (refine ASL.off rfl rfl ?_) | (refine ASL.dec rfl rfl (opInt rfl rfl rfl rfl) ?_ ?_ <;> intro h16))
  all_goals (refine ASL.light rfl rfl (opPick (v := .bool _) rfl rfl rfl) ?_)
  all_goals (refine ASL.done ?_)
  all_goals (first
    | (
      refine AWP.condT rfl ?_
      all_goals (refine AWP.seqR rfl ?_)
      all_goals (refine ASL.light rfl rfl (opAssign (v := .bool _) rfl rfl) ?_)
      all_goals (refine ASL.done ?_)
      all_goals (refine AWP.ret ?_)
      all_goals (repeat with_reducible refine QThen.ret1 ?_)
      all_goals (exact QRet.bool rfl rfl rfl (by first | exact boxOk_n (by assumption) | exact boxOk_l (by assumption) | exact boxOk_x (i := i) (by omega) (by assumption) | exact boxOk_y (i := i) (by omega) hI0.2 (by assumption) (by omega))))
    | (
      refine AWP.condF rfl ?_
      all_goals (refine AWP.skip ?_)
      all_goals (refine AWP.seq ?_)
      all_goals (refine AWP.seqR rfl ?_)
      all_goals (first | (refine ASL.light rfl rfl (opMove (v := .list _ _) rfl rfl) ?_) | (refine ASL.light rfl rfl (opMove (v := .slc _ _ _ _) rfl rfl) ?_) | (refine ASL.light rfl rfl (opMove (v := .nil) rfl rfl) ?_))
      all_goals (first | (refine ASL.light rfl rfl (opLenMap rfl rfl rfl lenT_22 rfl) ?_) | (refine ASL.light rfl rfl (opLenOf rfl rfl rfl lenT_22 rfl rfl) ?_))
      all_goals (refine ASL.light rfl rfl (opMove (v := .int _ _) rfl rfl) ?_)
      all_goals (refine ASL.done ?_)
      all_goals (refine AWP.block ?_)
      all_goals (refine AWP.loopL (α := Nat) (fun i => [(18, ints xs), (19, .int .i64 xs.length), (20, .int .i64 i)]) (fun i G => G = fun _ => none) (fun i => xs.length - i) (fun i => i ≤ xs.length ∧ okTo xs i) 0 ⟨by omega, okTo0 _⟩ ⟨rfl, rfl, rfl, trivial⟩ rfl ?_)
      rintro i G0 hI0 rfl
      all_goals (refine AWP.seqR rfl ?_)
      all_goals (refine ASL.dec rfl rfl (opInt rfl rfl rfl rfl) ?_ ?_ <;> intro h21)
      all_goals (refine ASL.done ?_)
      all_goals (refine AWP.seq ?_)
      all_goals (first
        | (
          refine AWP.condF rfl ?_
          all_goals (refine AWP.exit ?_))
        | (
          refine AWP.condT rfl ?_
          all_goals (refine AWP.skip ?_)
          all_goals (refine AWP.seq ?_)
          all_goals (refine AWP.block ?_)
          all_goals (refine AWP.seqR rfl ?_)
          all_goals (first | (refine ASL.light rfl rfl (opIndexIN rfl rfl rfl elemA_22 sizeA_3 (by omega)) ?_) | (refine ASL.light rfl rfl (opIndexI rfl rfl rfl elemA_22 sizeA_3 (by omega) (by omega)) ?_) | (refine ASL.light rfl rfl (opIndexN rfl rfl rfl elemA_22 sizeA_3 (by omega) rfl) ?_) | (refine ASL.light rfl rfl (opIndexMap rfl rfl rfl elemA_22 sizeA_3 (by omega) (by omega) rfl) ?_) | (refine ASL.light rfl rfl (opIndexAddrN rfl rfl rfl elemA_22 sizeA_3 (by omega)) ?_) | (refine ASL.light rfl rfl (opIndexAddr rfl rfl rfl elemA_22 sizeA_3 (by omega) (by omega) rfl) ?_))
          all_goals (first | (refine ASL.light rfl rfl (opLoadR (v := .int _ _) rfl aggA_3 rfl rfl) ?_) | (refine ASL.light rfl rfl (opLoadOwnI rfl aggA_3 rfl (by assumption) (by first | omega | (simp; omega))) ?_))
          all_goals (refine ASL.light rfl rfl (opAssign (v := .int _ _) rfl rfl) ?_)
          all_goals (refine ASL.done ?_)
          all_goals (refine AWP.seqR rfl ?_)
          all_goals (refine ASL.light rfl rfl (opMove (v := .int _ _) rfl rfl) ?_)
          all_goals (refine ASL.callD rfl rfl rfl rfl call_65 (impl_inRange _ _ _) rfl ?_ ?_ <;> intro h25)
          all_goals (refine ASL.light rfl rfl (opNot rfl rfl) ?_)
          all_goals (refine ASL.done ?_)
          all_goals (first
            | (
              refine AWP.condT rfl ?_
              all_goals (refine AWP.seqR rfl ?_)
              all_goals (refine ASL.light rfl rfl (opAssign (v := .bool _) rfl rfl) ?_)
              all_goals (refine ASL.done ?_)
              all_goals (refine AWP.ret ?_)
              all_goals (repeat with_reducible refine QThen.ret1 ?_)
              all_goals (exact QRet.bool rfl rfl rfl (by first | exact boxOk_n (by assumption) | exact boxOk_l (by assumption) | exact boxOk_x (i := i) (by omega) (by assumption) | exact boxOk_y (i := i) (by omega) hI0.2 (by assumption) (by omega))))
            | (
              refine AWP.condF rfl ?_
              all_goals (refine AWP.skip ?_)))
          all_goals (refine AWP.lastR rfl ?_)
          all_goals (first | (refine ASL.light rfl rfl (opAdd rfl rfl rfl (by omega)) ?_) | (refine ASL.light rfl rfl (opInt rfl rfl rfl rfl) ?_))
          all_goals (refine ASL.light rfl rfl (opMove (v := .int _ _) rfl rfl) ?_)
          all_goals (refine ASL.done ?_)
          all_goals (exact ⟨i + 1, ⟨by omega, okTo1 hI0.2 (by assumption)⟩, by omega, ⟨rfl, rfl, rfl, trivial⟩, rfl⟩)))
      all_goals (refine AWP.seqR rfl ?_)
      all_goals (refine ASL.light rfl rfl (opAssign (v := .bool _) rfl rfl) ?_)
      all_goals (refine ASL.done ?_)
      all_goals (refine AWP.ret ?_)
      all_goals (repeat with_reducible refine QThen.ret1 ?_)
      all_goals (exact QRet.bool rfl rfl rfl (by first | exact boxOk_n (by assumption) | exact boxOk_l (by assumption) | exact boxOk_x (i := i) (by omega) (by assumption) | exact boxOk_y (i := i) (by omega) hI0.2 (by assumption) (by omega)))))

set_option maxRecDepth 10000 in
theorem laws_toIntS_h (xs : List Int) (H : Heap) (hx : xs.length ≤ 1048576) : HC Try.prog 16 [ints xs] H (fun v G => Fresh 1 H v G (xs.map (AV.int .i64))) := by
  refine HC.enter Try.func16 rfl Try.ntmps16 (by simp) ?_
  all_goals (refine AWP.seqR rfl ?_)
  all_goals (first | (refine ASL.light rfl rfl (opAssign (v := .list _ _) rfl rfl) ?_) | (refine ASL.light rfl rfl (opAssign (v := .slc _ _ _ _) rfl rfl) ?_) | (refine ASL.light rfl rfl (opAssign (v := .nil) rfl rfl) ?_))
  all_goals (refine ASL.done ?_)
  all_goals (refine AWP.seqR rfl ?_)
  all_goals (first | (refine ASL.light rfl rfl (opMove (v := .list _ _) rfl rfl) ?_) | (refine ASL.light rfl rfl (opMove (v := .slc _ _ _ _) rfl rfl) ?_) | (refine ASL.light rfl rfl (opMove (v := .nil) rfl rfl) ?_))
  all_goals (first | (refine ASL.light rfl rfl (opLenMap rfl rfl rfl lenT_22 rfl) ?_) | (refine ASL.light rfl rfl (opLenOf rfl rfl rfl lenT_22 rfl rfl) ?_))
  all_goals (first | (refine ASL.heavy1 rfl rfl (opMakeN (f := AV.int .i64) (z0 := 0) rfl elemA_22 sizeA_3 bytesA_3 zeroA_3 rfl rfl (by decide) rfl rfl (by omega) (by omega) ?_); rintro b7 c7 G7 hO7 hK7 hN7) | (refine ASL.heavy1 rfl rfl (opMakeM (f := AV.int .i64) (z0 := 0) rfl elemA_22 sizeA_3 bytesA_3 zeroA_3 rfl rfl (by decide) rfl rfl (by omega) (by omega) (by omega) ?_); rintro b7 c7 G7 hO7 hK7 hN7))
  all_goals (first | (refine ASL.light rfl rfl (opAssign (v := .list _ _) rfl rfl) ?_) | (refine ASL.light rfl rfl (opAssign (v := .slc _ _ _ _) rfl rfl) ?_) | (refine ASL.light rfl rfl (opAssign (v := .nil) rfl rfl) ?_))
  all_goals (refine ASL.done ?_)
  all_goals (refine AWP.seq ?_)
  all_goals (refine AWP.seqR rfl ?_)
  all_goals (refine ASL.light rfl rfl (opAssign (v := .int _ _) rfl rfl) ?_)
  all_goals (refine ASL.done ?_)
  all_goals (refine AWP.block ?_)
  all_goals (refine AWP.loopL (α := Nat) (fun i => [(0, ints xs), (3, .slc b7 0 xs.length c7), (4, .int .i64 i)]) (fun i G => Own 1 G (.slc b7 0 xs.length c7) ((xs.take i ++ List.replicate (xs.length - i) 0).map (AV.int .i64)) ∧ ∀ c x, H c = some x → G c = some x) (fun i => xs.length - i) (fun i => i ≤ xs.length) 0 (by omega) ⟨rfl, rfl, rfl, trivial⟩ ⟨by rw [List.take_zero, List.nil_append, Nat.sub_zero]; exact hO7, hK7⟩ ?_)
  rintro i G0 hI0 ⟨hO0, hK0⟩
  all_goals (refine AWP.seq ?_)
  all_goals (refine AWP.seqR rfl ?_)
  all_goals (refine ASL.light rfl rfl (opMove (v := .int _ _) rfl rfl) ?_)
  all_goals (first | (refine ASL.light rfl rfl (opMove (v := .list _ _) rfl rfl) ?_) | (refine ASL.light rfl rfl (opMove (v := .slc _ _ _ _) rfl rfl) ?_) | (refine ASL.light rfl rfl (opMove (v := .nil) rfl rfl) ?_))
  all_goals (first | (refine ASL.light rfl rfl (opLenMap rfl rfl rfl lenT_22 rfl) ?_) | (refine ASL.light rfl rfl (opLenOf rfl rfl rfl lenT_22 rfl rfl) ?_))
  all_goals (refine ASL.dec rfl rfl (opInt rfl rfl rfl rfl) ?_ ?_ <;> intro h11)
  all_goals (refine ASL.done ?_)
  all_goals (first
    | (
      refine AWP.condF rfl ?_
      all_goals (refine AWP.exit ?_))
    | (
      refine AWP.condT rfl ?_
      all_goals (refine AWP.skip ?_)
      all_goals (refine AWP.seq ?_)
      all_goals (refine AWP.block ?_)
      all_goals (refine AWP.lastR rfl ?_)
      all_goals (first | (refine ASL.light rfl rfl (opMove (v := .list _ _) rfl rfl) ?_) | (refine ASL.light rfl rfl (opMove (v := .slc _ _ _ _) rfl rfl) ?_) | (refine ASL.light rfl rfl (opMove (v := .nil) rfl rfl) ?_))
      all_goals (refine ASL.light rfl rfl (opMove (v := .int _ _) rfl rfl) ?_)
      all_goals (first | (refine ASL.light rfl rfl (opMove (v := .list _ _) rfl rfl) ?_) | (refine ASL.light rfl rfl (opMove (v := .slc _ _ _ _) rfl rfl) ?_) | (refine ASL.light rfl rfl (opMove (v := .nil) rfl rfl) ?_))
      all_goals (refine ASL.light rfl rfl (opMove (v := .int _ _) rfl rfl) ?_)
      all_goals (first | (refine ASL.light rfl rfl (opIndexIN rfl rfl rfl elemA_22 sizeA_3 (by omega)) ?_) | (refine ASL.light rfl rfl (opIndexI rfl rfl rfl elemA_22 sizeA_3 (by omega) (by omega)) ?_) | (refine ASL.light rfl rfl (opIndexN rfl rfl rfl elemA_22 sizeA_3 (by omega) rfl) ?_) | (refine ASL.light rfl rfl (opIndexMap rfl rfl rfl elemA_22 sizeA_3 (by omega) (by omega) rfl) ?_) | (refine ASL.light rfl rfl (opIndexAddrN rfl rfl rfl elemA_22 sizeA_3 (by omega)) ?_) | (refine ASL.light rfl rfl (opIndexAddr rfl rfl rfl elemA_22 sizeA_3 (by omega) (by omega) rfl) ?_))
      all_goals (first | (refine ASL.light rfl rfl (opLoadR (v := .int _ _) rfl aggA_3 rfl rfl) ?_) | (refine ASL.light rfl rfl (opLoadOwnI rfl aggA_3 rfl (by assumption) (by first | omega | (simp; omega))) ?_))
      all_goals (first | (refine ASL.light rfl rfl (opIndexIN rfl rfl rfl elemA_22 sizeA_3 (by omega)) ?_) | (refine ASL.light rfl rfl (opIndexI rfl rfl rfl elemA_22 sizeA_3 (by omega) (by omega)) ?_) | (refine ASL.light rfl rfl (opIndexN rfl rfl rfl elemA_22 sizeA_3 (by omega) rfl) ?_) | (refine ASL.light rfl rfl (opIndexMap rfl rfl rfl elemA_22 sizeA_3 (by omega) (by omega) rfl) ?_) | (refine ASL.light rfl rfl (opIndexAddrN rfl rfl rfl elemA_22 sizeA_3 (by omega)) ?_) | (refine ASL.light rfl rfl (opIndexAddr rfl rfl rfl elemA_22 sizeA_3 (by omega) (by omega) rfl) ?_))
      all_goals (refine ASL.store rfl rfl (opStoreOwnI rfl sizeA_3 rfl rfl (by assumption) (by first | omega | (simp; omega)) ?_); rintro Gs1 hOs1 hBs1)
      all_goals (refine ASL.done ?_)
      all_goals (refine AWP.lastR rfl ?_)
      all_goals (refine ASL.light rfl rfl (opMove (v := .int _ _) rfl rfl) ?_)
      all_goals (first | (refine ASL.light rfl rfl (opAdd rfl rfl rfl (by omega)) ?_) | (refine ASL.light rfl rfl (opInt rfl rfl rfl rfl) ?_))
      all_goals (refine ASL.light rfl rfl (opAssign (v := .int _ _) rfl rfl) ?_)
      all_goals (refine ASL.done ?_)
      all_goals (exact ⟨i + 1, by omega, by omega, ⟨rfl, rfl, rfl, trivial⟩, by rw [copy_step (by omega)] at hOs1; exact hOs1, fun c x h => hBs1 c x (fun k => by rw [hN7 c k] at h; cases h) (hK0 c x h)⟩)))
  all_goals (refine AWP.seqR rfl ?_)
  all_goals (first | (refine ASL.light rfl rfl (opMove (v := .list _ _) rfl rfl) ?_) | (refine ASL.light rfl rfl (opMove (v := .slc _ _ _ _) rfl rfl) ?_) | (refine ASL.light rfl rfl (opMove (v := .nil) rfl rfl) ?_))
  all_goals (first | (refine ASL.light rfl rfl (opAssign (v := .list _ _) rfl rfl) ?_) | (refine ASL.light rfl rfl (opAssign (v := .slc _ _ _ _) rfl rfl) ?_) | (refine ASL.light rfl rfl (opAssign (v := .nil) rfl rfl) ?_))
  all_goals (refine ASL.done ?_)
  all_goals (refine AWP.ret ?_)
  all_goals (repeat with_reducible refine QThen.ret1 ?_)
  all_goals (exact QRet.one rfl rfl ⟨by rw [show i = xs.length by omega, List.take_length, Nat.sub_self, List.replicate_zero, List.append_nil] at hO0; exact hO0, hK0, hN7⟩)

theorem laws_toIntS_o (xs : List Int) (hx : xs.length ≤ 1048576) : PO Try.prog 16 [ints xs] 1 (xs.map (AV.int .i64)) := (laws_toIntS_h xs _ hx).mono fun v G h => h.1

set_option maxRecDepth 10000 in
theorem laws_eqIntS (xs ys : List Int) (hx : xs.length ≤ 1048576) : PC Try.prog 18 [ints xs, ints ys] (fun v => v = .bool (decide (xs = ys))) := by
  refine PC.enter Try.func18 rfl Try.ntmps18 (by simp) ?_
  all_goals (refine AWP.seqR rfl ?_)
  all_goals (refine ASL.light rfl rfl (opAssign (v := .bool _) rfl rfl) ?_)
  all_goals (refine ASL.done ?_)
  all_goals (refine AWP.seq ?_)
  all_goals (refine AWP.seqR rfl ?_)
  all_goals (first | (refine ASL.light rfl rfl (opMove (v := .list _ _) rfl rfl) ?_) | (refine ASL.light rfl rfl (opMove (v := .slc _ _ _ _) rfl rfl) ?_) | (refine ASL.light rfl rfl (opMove (v := .nil) rfl rfl) ?_))
  all_goals (first | (refine ASL.light rfl rfl (opLenMap rfl rfl rfl lenT_22 rfl) ?_) | (refine ASL.light rfl rfl (opLenOf rfl rfl rfl lenT_22 rfl rfl) ?_))
  all_goals (first | (refine ASL.light rfl rfl (opMove (v := .list _ _) rfl rfl) ?_) | (refine ASL.light rfl rfl (opMove (v := .slc _ _ _ _) rfl rfl) ?_) | (refine ASL.light rfl rfl (opMove (v := .nil) rfl rfl) ?_))
  all_goals (first | (refine ASL.light rfl rfl (opLenMap rfl rfl rfl lenT_22 rfl) ?_) | (refine ASL.light rfl rfl (opLenOf rfl rfl rfl lenT_22 rfl rfl) ?_))
  all_goals (refine ASL.dec rfl rfl (opInt rfl rfl rfl rfl) ?_ ?_ <;> intro h10)
  all_goals (refine ASL.done ?_)
  all_goals (first
    | (
      refine AWP.condT rfl ?_
      all_goals (refine AWP.seqR rfl ?_)
      all_goals (refine ASL.light rfl rfl (opAssign (v := .bool _) rfl rfl) ?_)
      all_goals (refine ASL.done ?_)
      all_goals (refine AWP.ret ?_)
      all_goals (repeat with_reducible refine QThen.ret1 ?_)
      all_goals (exact QRet.bool rfl rfl rfl (by first | exact eqL_len (by omega) | exact eqL_at (i := i) (by omega) (by omega) (by omega) | exact eqL_all (i := i) (by omega) (by omega) hI0.2)))
    | (
      refine AWP.condF rfl ?_
      all_goals (refine AWP.skip ?_)
      all_goals (refine AWP.seq ?_)
      all_goals (refine AWP.seqR rfl ?_)
      all_goals (refine ASL.light rfl rfl (opAssign (v := .int _ _) rfl rfl) ?_)
      all_goals (refine ASL.done ?_)
      all_goals (refine AWP.block ?_)
      all_goals (refine AWP.loopL (α := Nat) (fun i => [(0, ints xs), (1, ints ys), (5, .int .i64 i)]) (fun i G => G = fun _ => none) (fun i => xs.length - i) (fun i => i ≤ xs.length ∧ eqTo xs ys i) 0 ⟨by omega, eqTo0 _ _⟩ ⟨rfl, rfl, rfl, trivial⟩ rfl ?_)
      rintro i G0 hI0 rfl
      all_goals (refine AWP.seq ?_)
      all_goals (refine AWP.seqR rfl ?_)
      all_goals (refine ASL.light rfl rfl (opMove (v := .int _ _) rfl rfl) ?_)
      all_goals (first | (refine ASL.light rfl rfl (opMove (v := .list _ _) rfl rfl) ?_) | (refine ASL.light rfl rfl (opMove (v := .slc _ _ _ _) rfl rfl) ?_) | (refine ASL.light rfl rfl (opMove (v := .nil) rfl rfl) ?_))
      all_goals (first | (refine ASL.light rfl rfl (opLenMap rfl rfl rfl lenT_22 rfl) ?_) | (refine ASL.light rfl rfl (opLenOf rfl rfl rfl lenT_22 rfl rfl) ?_))
      all_goals (refine ASL.dec rfl rfl (opInt rfl rfl rfl rfl) ?_ ?_ <;> intro h14)
      all_goals (refine ASL.done ?_)
      all_goals (first
        | (
          refine AWP.condF rfl ?_
          all_goals (refine AWP.exit ?_))
        | (
          refine AWP.condT rfl ?_
          all_goals (refine AWP.skip ?_)
          all_goals (refine AWP.seq ?_)
          all_goals (refine AWP.block ?_)
          all_goals (refine AWP.seqD [(0, false), (1, false), (2, false), (3, false), (4, false), (5, false), (6, false), (7, false), (8, false)] mixed (by kernel_rfl) rfl ?_)
          all_goals (first | (refine ARL.light0 rfl rfl rfl (opMove (v := .list _ _) rfl rfl) ?_) | (refine ARL.light0 rfl rfl rfl (opMove (v := .slc _ _ _ _) rfl rfl) ?_) | (refine ARL.light0 rfl rfl rfl (opMove (v := .nil) rfl rfl) ?_))
          all_goals (refine ARL.light0 rfl rfl rfl (opMove (v := .int _ _) rfl rfl) ?_)
          all_goals (first | (refine ARL.light0 rfl rfl rfl (opIndexIN rfl rfl rfl elemA_22 sizeA_3 (by omega)) ?_) | (refine ARL.light0 rfl rfl rfl (opIndexI rfl rfl rfl elemA_22 sizeA_3 (by omega) (by omega)) ?_) | (refine ARL.light0 rfl rfl rfl (opIndexN rfl rfl rfl elemA_22 sizeA_3 (by omega) rfl) ?_) | (refine ARL.light0 rfl rfl rfl (opIndexMap rfl rfl rfl elemA_22 sizeA_3 (by omega) (by omega) rfl) ?_) | (refine ARL.light0 rfl rfl rfl (opIndexAddrN rfl rfl rfl elemA_22 sizeA_3 (by omega)) ?_) | (refine ARL.light0 rfl rfl rfl (opIndexAddr rfl rfl rfl elemA_22 sizeA_3 (by omega) (by omega) rfl) ?_))
          all_goals (first | (refine ARL.light0 rfl rfl rfl (opLoadR (v := .int _ _) rfl aggA_3 rfl rfl) ?_) | (refine ARL.light rfl rfl rfl (opLoadOwnI rfl aggA_3 rfl (by assumption) (by first | omega | (simp; omega))) (by intro b_ hb_; rw [List.mem_singleton.mp hb_]; exact Own.alive (by assumption) (by first | omega | (simp; omega))) ?_))
          all_goals (first | (refine ARL.light0 rfl rfl rfl (opMove (v := .list _ _) rfl rfl) ?_) | (refine ARL.light0 rfl rfl rfl (opMove (v := .slc _ _ _ _) rfl rfl) ?_) | (refine ARL.light0 rfl rfl rfl (opMove (v := .nil) rfl rfl) ?_))
          all_goals (refine ARL.light0 rfl rfl rfl (opMove (v := .int _ _) rfl rfl) ?_)
          all_goals (first | (refine ARL.light0 rfl rfl rfl (opIndexIN rfl rfl rfl elemA_22 sizeA_3 (by omega)) ?_) | (refine ARL.light0 rfl rfl rfl (opIndexI rfl rfl rfl elemA_22 sizeA_3 (by omega) (by omega)) ?_) | (refine ARL.light0 rfl rfl rfl (opIndexN rfl rfl rfl elemA_22 sizeA_3 (by omega) rfl) ?_) | (refine ARL.light0 rfl rfl rfl (opIndexMap rfl rfl rfl elemA_22 sizeA_3 (by omega) (by omega) rfl) ?_) | (refine ARL.light0 rfl rfl rfl (opIndexAddrN rfl rfl rfl elemA_22 sizeA_3 (by omega)) ?_) | (refine ARL.light0 rfl rfl rfl (opIndexAddr rfl rfl rfl elemA_22 sizeA_3 (by omega) (by omega) rfl) ?_))
          all_goals (first | (refine ARL.light0 rfl rfl rfl (opLoadR (v := .int _ _) rfl aggA_3 rfl rfl) ?_) | (refine ARL.light rfl rfl rfl (opLoadOwnI rfl aggA_3 rfl (by assumption) (by first | omega | (simp; omega))) (by intro b_ hb_; rw [List.mem_singleton.mp hb_]; exact Own.alive (by assumption) (by first | omega | (simp; omega))) ?_))
          all_goals (refine ARL.dec rfl rfl rfl (opInt rfl rfl rfl rfl) ?_ ?_ <;> intro h25)
          all_goals (refine ARL.done ?_)
          all_goals (first
            | (
              refine AWP.condT rfl ?_
              all_goals (refine AWP.seqR rfl ?_)
              all_goals (refine ASL.light rfl rfl (opAssign (v := .bool _) rfl rfl) ?_)
              all_goals (refine ASL.done ?_)
              all_goals (refine AWP.ret ?_)
              all_goals (repeat with_reducible refine QThen.ret1 ?_)
              all_goals (exact QRet.bool rfl rfl rfl (by first | exact eqL_len (by omega) | exact eqL_at (i := i) (by omega) (by omega) (by omega) | exact eqL_all (i := i) (by omega) (by omega) hI0.2)))
            | (
              refine AWP.condF rfl ?_
              all_goals (refine AWP.skip ?_)))
          all_goals (refine AWP.lastR rfl ?_)
          all_goals (refine ASL.light rfl rfl (opMove (v := .int _ _) rfl rfl) ?_)
          all_goals (first | (refine ASL.light rfl rfl (opAdd rfl rfl rfl (by omega)) ?_) | (refine ASL.light rfl rfl (opInt rfl rfl rfl rfl) ?_))
          all_goals (refine ASL.light rfl rfl (opAssign (v := .int _ _) rfl rfl) ?_)
          all_goals (refine ASL.done ?_)
          all_goals (exact ⟨i + 1, ⟨by omega, eqTo1 hI0.2 (by omega)⟩, by omega, ⟨rfl, rfl, rfl, trivial⟩, rfl⟩)))
      all_goals (refine AWP.seqR rfl ?_)
      all_goals (refine ASL.light rfl rfl (opAssign (v := .bool _) rfl rfl) ?_)
      all_goals (refine ASL.done ?_)
      all_goals (refine AWP.ret ?_)
      all_goals (repeat with_reducible refine QThen.ret1 ?_)
      all_goals (exact QRet.bool rfl rfl rfl (by first | exact eqL_len (by omega) | exact eqL_at (i := i) (by omega) (by omega) (by omega) | exact eqL_all (i := i) (by omega) (by omega) hI0.2))))

set_option maxRecDepth 10000 in
theorem laws_FnExactBoxOk (n : Int) (xs : List Int) (hl : xs.length ≤ Go.maxLen) : PC Try.prog 3 [.int .i64 n, ints xs] (fun v => v = .bool true) := by
  refine PC.enter Try.func3 rfl Try.ntmps3 (by simp) ?_
  unfold Go.maxLen at hl
  all_goals (refine AWP.seqR rfl ?_)
  all_goals (refine ASL.light rfl rfl (opAssign (v := .bool _) rfl rfl) ?_)
  all_goals (refine ASL.done ?_)
  all_goals (refine AWP.seq ?_)
  all_goals (refine AWP.seqR rfl ?_)
  all_goals (first | (refine ASL.light rfl rfl (opMove (v := .list _ _) rfl rfl) ?_) | (refine ASL.light rfl rfl (opMove (v := .slc _ _ _ _) rfl rfl) ?_) | (refine ASL.light rfl rfl (opMove (v := .nil) rfl rfl) ?_))
  all_goals (first | (refine ASL.light rfl rfl (opLenMap rfl rfl rfl lenT_22 rfl) ?_) | (refine ASL.light rfl rfl (opLenOf rfl rfl rfl lenT_22 rfl rfl) ?_))
  all_goals (refine ASL.dec rfl rfl (opInt rfl rfl rfl rfl) ?_ ?_ <;> intro h10)
  all_goals (refine ASL.done ?_)
  all_goals (first
    | (
      refine AWP.condT rfl ?_
      all_goals (refine AWP.seqR rfl ?_)
      all_goals (refine ASL.light rfl rfl (opAssign (v := .bool _) rfl rfl) ?_)
      all_goals (refine ASL.done ?_)
      all_goals (refine AWP.ret ?_)
      all_goals (repeat with_reducible refine QThen.ret1 ?_)
      all_goals (exact QRet.bool rfl rfl rfl (by first | rfl | (simp_all; done))))
    | (
      refine AWP.condF rfl ?_
      all_goals (refine AWP.skip ?_)
      all_goals (refine AWP.seqR rfl ?_)
      all_goals (refine ASL.light rfl rfl (opMove (v := .int _ _) rfl rfl) ?_)
      all_goals (first | (refine ASL.light rfl rfl (opMove (v := .list _ _) rfl rfl) ?_) | (refine ASL.light rfl rfl (opMove (v := .slc _ _ _ _) rfl rfl) ?_) | (refine ASL.light rfl rfl (opMove (v := .nil) rfl rfl) ?_))
      all_goals (refine ASL.callP rfl rfl rfl rfl call_16 (PO.list (laws_toIntS_o _ (by omega))) rfl ?_; rintro _ rfl)
      all_goals (refine ASL.callB rfl rfl rfl rfl call_15 (spec_BoxOk _ _ (by omega)) rfl ?_ ?_ <;> intro h14)
      all_goals (refine ASL.light rfl rfl (opAssign (v := .bool _) rfl rfl) ?_)
      all_goals (refine ASL.done ?_)
      all_goals (refine AWP.seqR rfl ?_)
      all_goals (first | (refine ASL.light rfl rfl (opMove (v := .list _ _) rfl rfl) ?_) | (refine ASL.light rfl rfl (opMove (v := .slc _ _ _ _) rfl rfl) ?_) | (refine ASL.light rfl rfl (opMove (v := .nil) rfl rfl) ?_))
      all_goals (refine ASL.callP rfl rfl rfl rfl call_16 (PO.list (laws_toIntS_o _ (by omega))) rfl ?_; rintro _ rfl)
      all_goals (first | (refine ASL.light rfl rfl (opAssign (v := .list _ _) rfl rfl) ?_) | (refine ASL.light rfl rfl (opAssign (v := .slc _ _ _ _) rfl rfl) ?_) | (refine ASL.light rfl rfl (opAssign (v := .nil) rfl rfl) ?_))
      all_goals (refine ASL.done ?_)
      all_goals (refine AWP.seqR rfl ?_)
      all_goals (refine ASL.light rfl rfl (opMove (v := .int _ _) rfl rfl) ?_)
      all_goals (first | (refine ASL.light rfl rfl (opMove (v := .list _ _) rfl rfl) ?_) | (refine ASL.light rfl rfl (opMove (v := .slc _ _ _ _) rfl rfl) ?_) | (refine ASL.light rfl rfl (opMove (v := .nil) rfl rfl) ?_))
      all_goals (refine ASL.callB rfl rfl rfl rfl call_17 (impl_BoxOk _ _ (by omega)) rfl ?_ ?_ <;> intro h19)
      all_goals (refine ASL.light rfl rfl (opAssign (v := .bool _) rfl rfl) ?_)
      all_goals (refine ASL.done ?_)
      all_goals (refine AWP.seq ?_)
      all_goals (refine AWP.seqR rfl ?_)
      all_goals (refine ASL.light rfl rfl (opMove (v := .bool _) rfl rfl) ?_)
      all_goals (refine ASL.light rfl rfl (opMove (v := .bool _) rfl rfl) ?_)
      all_goals (refine ASL.bool rfl rfl (opBoolEq rfl rfl rfl und_4 rfl) ?_ ?_ <;> intro h22)
      all_goals (refine ASL.done ?_)
      all_goals (first
        | (
          refine AWP.condT rfl ?_
          all_goals (refine AWP.seqR rfl ?_)
          all_goals (refine ASL.light rfl rfl (opAssign (v := .bool _) rfl rfl) ?_)
          all_goals (refine ASL.done ?_)
          all_goals (refine AWP.ret ?_)
          all_goals (repeat with_reducible refine QThen.ret1 ?_)
          all_goals (exact QRet.bool rfl rfl rfl (by first | rfl | (simp_all; done))))
        | (
          refine AWP.condF rfl ?_
          all_goals (refine AWP.skip ?_)
          all_goals (refine AWP.seq ?_)
          all_goals (refine AWP.seqR rfl ?_)
          all_goals (first | (refine ASL.light rfl rfl (opMove (v := .list _ _) rfl rfl) ?_) | (refine ASL.light rfl rfl (opMove (v := .slc _ _ _ _) rfl rfl) ?_) | (refine ASL.light rfl rfl (opMove (v := .nil) rfl rfl) ?_))
          all_goals (first | (refine ASL.light rfl rfl (opMove (v := .list _ _) rfl rfl) ?_) | (refine ASL.light rfl rfl (opMove (v := .slc _ _ _ _) rfl rfl) ?_) | (refine ASL.light rfl rfl (opMove (v := .nil) rfl rfl) ?_))
          all_goals (refine ASL.callP rfl rfl rfl rfl call_16 (PO.list (laws_toIntS_o _ (by omega))) rfl ?_; rintro _ rfl)
          all_goals (refine ASL.callD rfl rfl rfl rfl call_18 (laws_eqIntS _ _ (by omega)) rfl ?_ ?_ <;> intro h26)
          all_goals (refine ASL.light rfl rfl (opNot rfl rfl) ?_)
          all_goals (refine ASL.done ?_)
          all_goals (first
            | (
              refine AWP.condT rfl ?_
              all_goals (refine AWP.seqR rfl ?_)
              all_goals (refine ASL.light rfl rfl (opAssign (v := .bool _) rfl rfl) ?_)
              all_goals (refine ASL.done ?_)
              all_goals (refine AWP.ret ?_)
              all_goals (repeat with_reducible refine QThen.ret1 ?_)
              all_goals (exact QRet.bool rfl rfl rfl (by first | rfl | (simp_all; done))))
            | (
              refine AWP.condF rfl ?_
              all_goals (refine AWP.skip ?_)
              all_goals (refine AWP.seqR rfl ?_)
              all_goals (refine ASL.light rfl rfl (opAssign (v := .bool _) rfl rfl) ?_)
              all_goals (refine ASL.done ?_)
              all_goals (refine AWP.ret ?_)
              all_goals (repeat with_reducible refine QThen.ret1 ?_)
              all_goals (exact QRet.bool rfl rfl rfl (by first | rfl | (simp_all; done)))))))))

end Go.Proofs.Ytcmlckgdhnffmaa
