/- The contracts of some of the program's functions: A2. -/
import Derived.Test.YtcmlckgdhnffmaaA1
import Derived.Test.YtcmlckgdhnffmaaE11
import Derived.Test.YtcmlckgdhnffmaaProg
namespace Go.Proofs.Ytcmlckgdhnffmaa
open Go Go.RowKit E
set_option linter.unusedVariables false

def oneL (m i : Nat) : List Int := (List.range i).map fun j => if j / m = j % m then 1 else 0
theorem oneL_len (m i : Nat) : (oneL m i).length = i := by simp [oneL]
theorem oneL_T {m i : Nat} (h : ((i / m : Nat) : Int) = ((i % m : Nat) : Int)) : oneL m i ++ [1] = oneL m (i + 1) := by
  have : i / m = i % m := by omega
  simp [oneL, List.range_succ, this]
theorem oneL_F {m i : Nat} (h : ¬ ((i / m : Nat) : Int) = ((i % m : Nat) : Int)) : oneL m i ++ [0] = oneL m (i + 1) := by
  have : ¬ i / m = i % m := by omega
  simp [oneL, List.range_succ, this]
def boxOneL (n : Int) : List Int := if 1 ≤ n ∧ n ≤ 4 then oneL n.toNat (n * n).toNat else []
theorem boxOneL_no {n : Int} (h : ¬ (1 ≤ n ∧ n ≤ 4)) : boxOneL n = [] := by unfold boxOneL; rw [if_neg h]
theorem boxOneL_yes (m : Nat) (h : 1 ≤ m ∧ m ≤ 4) : boxOneL m = oneL m (m * m) := by
  unfold boxOneL; rw [if_pos (by omega)]; simp [← Int.natCast_mul]
theorem boxOneL_len (n : Int) : (boxOneL n).length ≤ 16 := by
  by_cases h : 1 ≤ n ∧ n ≤ 4
  · have : n = 1 ∨ n = 2 ∨ n = 3 ∨ n = 4 := by omega
    rcases this with rfl | rfl | rfl | rfl <;> decide
  · rw [boxOneL_no h]; simp
def diagL (m p : Nat) : List Int := (List.range (m * m)).map fun j => if j / m = j % m ∧ j / m < p then 1 else 0
theorem diagL_0 (m : Nat) : List.replicate (m * m) 0 = diagL m 0 := by simp [diagL, List.map_const']
theorem diagL_len (m p : Nat) : (diagL m p).length = m * m := by simp [diagL]
theorem diagL_step : ∀ m, m < 5 → ∀ p, p < m → (diagL m p).set (p * m + p) 1 = diagL m (p + 1) := by decide
theorem diagL_end : ∀ m, m < 5 → diagL m m = oneL m (m * m) := by decide
theorem one4 {n : Int} (h : 1 ≤ n ∧ n ≤ 4) : ∃ m : Nat, n = m ∧ 1 ≤ m ∧ m ≤ 4 := ⟨n.toNat, by omega, by omega, by omega⟩
theorem mm4 {m : Nat} (h : 1 ≤ m ∧ m ≤ 4) : ((m : Int) * m) = ((m * m : Nat) : Int) ∧ 1 ≤ m * m ∧ m * m ≤ 16 ∧ 1 ≤ (m : Int) * m ∧ (m : Int) * m ≤ 16 := by
  have : m = 1 ∨ m = 2 ∨ m = 3 ∨ m = 4 := by omega
  rcases this with rfl | rfl | rfl | rfl <;> decide
theorem pm4 {m p : Nat} (h : 1 ≤ m ∧ m ≤ 4) (hp : p < m) : ((p : Int) * m + p) = ((p * m + p : Nat) : Int) ∧ p * m + p < m * m ∧ 0 ≤ (p : Int) * m ∧ (p : Int) * m ≤ 16 := by
  refine ⟨by simp, ?_⟩
  have : m = 1 ∨ m = 2 ∨ m = 3 ∨ m = 4 := by omega
  rcases this with rfl | rfl | rfl | rfl <;> omega

theorem call_66 : callable Try.prog 66 = true := by kernel_rfl
theorem call_19 : callable Try.prog 19 = true := by kernel_rfl
theorem call_20 : callable Try.prog 20 = true := by kernel_rfl
theorem call_21 : callable Try.prog 21 = true := by kernel_rfl
theorem call_22 : callable Try.prog 22 = true := by kernel_rfl
set_option maxRecDepth 10000 in
theorem spec_BoxOne_no (n : Int) (hn : ¬ (1 ≤ n ∧ n ≤ 4)) : PO Try.prog 19 [.int .i64 n] 1 ((boxOneL n).map (AV.int .i64)) := by
  refine HC.enter Try.func19 rfl Try.ntmps19 (by simp) ?_
  rw [boxOneL_no hn]
  all_goals (refine AWP.seqR rfl ?_)
  all_goals (first | (refine ASL.light rfl rfl (opAssign (v := .list _ _) rfl rfl) ?_) | (refine ASL.light rfl rfl (opAssign (v := .slc _ _ _ _) rfl rfl) ?_) | (refine ASL.light rfl rfl (opAssign (v := .nil) rfl rfl) ?_))
  all_goals (refine ASL.done ?_)
  all_goals (refine AWP.seqR rfl ?_)
  all_goals (refine ASL.heavy1 rfl rfl (opBuildSlice (xs := []) rfl elemA_22 sizeA_3 zeroA_3 rfl rfl rfl rfl (by simp [cells]) (by decide) ?_); rintro v5 G5 hO5 hK5 hN5 -)
  all_goals (first | (refine ASL.light rfl rfl (opAssign (v := v5) rfl rfl) ?_) | (refine ASL.light rfl rfl (opAssign (v := .list _ _) rfl rfl) ?_) | (refine ASL.light rfl rfl (opAssign (v := .slc _ _ _ _) rfl rfl) ?_) | (refine ASL.light rfl rfl (opAssign (v := .nil) rfl rfl) ?_))
  all_goals (refine ASL.done ?_)
  all_goals (refine AWP.seq ?_)
  all_goals (refine AWP.seqR rfl ?_)
  all_goals (refine ASL.light rfl rfl (opAssign (v := .int _ _) rfl rfl) ?_)
  all_goals (refine ASL.done ?_)
  all_goals (refine AWP.block ?_)
  all_goals (refine AWP.loopL (α := Unit) (fun _ => [(0, .int .i64 n), (3, v5), (4, .int .i64 0)]) (fun _ G => Own 1 G v5 (([] : List Int).map (AV.int .i64))) (fun _ => 0) (fun _ => True) () trivial ⟨rfl, rfl, rfl, trivial⟩ hO5 ?_)
  rintro ⟨⟩ G0 hI0 hO0
  all_goals (refine AWP.seq ?_)
  all_goals (refine AWP.seqR rfl ?_)
  all_goals (refine ASL.light rfl rfl (opMove (v := .int _ _) rfl rfl) ?_)
  all_goals (refine ASL.light rfl rfl (opMove (v := .int _ _) rfl rfl) ?_)
  all_goals (refine ASL.light rfl rfl (opMove (v := .int _ _) rfl rfl) ?_)
  all_goals (first | (refine ASL.light rfl rfl (opMul rfl rfl rfl (by first | omega | (simp [oneL_len, diagL_len]; omega))) ?_) | (refine ASL.light rfl rfl (opInt rfl rfl rfl rfl) ?_))
  all_goals (refine ASL.dec rfl rfl (opInt rfl rfl rfl rfl) ?_ ?_ <;> intro h10)
  all_goals (refine ASL.light rfl rfl (opMove (v := .bool _) rfl rfl) ?_)
  all_goals (first | (refine ASL.off rfl rfl ?_) | (refine ASL.light rfl rfl (opMove (v := .int _ _) rfl rfl) ?_))
  all_goals (first | (refine ASL.off rfl rfl ?_) | (refine ASL.callD rfl rfl rfl rfl call_63 (spec_l1In _ _ _) rfl ?_ ?_ <;> intro h13) | (refine ASL.callRD rfl rfl rfl rfl call_63 (by exact ⟨by first | exact RA.same _ | exact RA.own (by assumption), by first | exact RA.same _ | exact RA.own (by assumption), by first | exact RA.same _ | exact RA.own (by assumption), trivial⟩) (spec_l1In _ _ _) ?_ ?_ <;> intro h13))
  all_goals (refine ASL.light rfl rfl (opPick (v := .bool _) rfl rfl rfl) ?_)
  all_goals (refine ASL.done ?_)
  all_goals (first
    | (
      refine AWP.condF rfl ?_
      all_goals (refine AWP.exit ?_))
    | (
      refine AWP.condT rfl ?_
      all_goals (refine AWP.skip ?_)
      all_goals (refine AWP.seq ?_)
      all_goals (refine AWP.block ?_)
      all_goals (refine AWP.seqD [(0, false), (1, false), (2, false), (3, false), (4, false), (5, false), (6, false)] mixed (by kernel_rfl) rfl ?_)
      all_goals (refine ARL.light0 rfl rfl rfl (opMove (v := .int _ _) rfl rfl) ?_)
      all_goals (refine ARL.light0 rfl rfl rfl (opMove (v := .int _ _) rfl rfl) ?_)
      all_goals (refine ARL.light0 rfl rfl rfl (opQuo rfl rfl rfl (by first | omega | (simp [oneL_len, diagL_len]; omega)) rfl) ?_)
      all_goals (refine ARL.light0 rfl rfl rfl (opMove (v := .int _ _) rfl rfl) ?_)
      all_goals (refine ARL.light0 rfl rfl rfl (opMove (v := .int _ _) rfl rfl) ?_)
      all_goals (refine ARL.light0 rfl rfl rfl (opRem rfl rfl rfl (by first | omega | (simp [oneL_len, diagL_len]; omega)) rfl) ?_)
      all_goals (refine ARL.dec rfl rfl rfl (opInt rfl rfl rfl rfl) ?_ ?_ <;> intro h23)
      all_goals (refine ARL.done ?_)
      all_goals (first
        | (
          refine AWP.condT rfl ?_
          all_goals (refine AWP.lastR rfl ?_)
          all_goals (first | (refine ASL.light rfl rfl (opMove (v := v5) rfl rfl) ?_) | (refine ASL.light rfl rfl (opMove (v := .list _ _) rfl rfl) ?_) | (refine ASL.light rfl rfl (opMove (v := .slc _ _ _ _) rfl rfl) ?_) | (refine ASL.light rfl rfl (opMove (v := .nil) rfl rfl) ?_))
          all_goals (refine ASL.heavy1 rfl rfl (opBuildSliceI (xs := [.int _ _]) rfl elemA_22 sizeA_3 zeroA_3 rfl rfl rfl rfl (by simp [cells]) (by decide) ?_))
          all_goals (first | (refine ASL.heavy1 rfl rfl (opAppend1 (f := AV.int .i64) rfl elemA_22 rfl sizeA_3 bytesA_3 zeroA_3 rfl rfl rfl rfl (by assumption) (by first | omega | (simp [oneL_len, diagL_len]; omega)) (by first | omega | (simp [oneL_len, diagL_len]; omega)) ?_); rintro v26 G26 hO26 hB26 hN26) | (refine ASL.heavy1 rfl rfl (opAppendL (f := AV.int .i64) rfl elemA_22 rfl sizeA_3 bytesA_3 zeroA_3 rfl rfl rfl (fun _ => rfl) (by assumption) (by first | omega | (simp [oneL_len, diagL_len]; omega)) (by first | omega | (simp [oneL_len, diagL_len]; omega)) ?_); rintro v26 G26 hO26 hB26 hN26))
          all_goals (first | (refine ASL.light rfl rfl (opAssign (v := v26) rfl rfl) ?_) | (refine ASL.light rfl rfl (opAssign (v := v5) rfl rfl) ?_) | (refine ASL.light rfl rfl (opAssign (v := .list _ _) rfl rfl) ?_) | (refine ASL.light rfl rfl (opAssign (v := .slc _ _ _ _) rfl rfl) ?_) | (refine ASL.light rfl rfl (opAssign (v := .nil) rfl rfl) ?_))
          all_goals (refine ASL.done ?_))
        | (
          refine AWP.condF rfl ?_
          all_goals (refine AWP.lastR rfl ?_)
          all_goals (first | (refine ASL.light rfl rfl (opMove (v := v26) rfl rfl) ?_) | (refine ASL.light rfl rfl (opMove (v := v5) rfl rfl) ?_) | (refine ASL.light rfl rfl (opMove (v := .list _ _) rfl rfl) ?_) | (refine ASL.light rfl rfl (opMove (v := .slc _ _ _ _) rfl rfl) ?_) | (refine ASL.light rfl rfl (opMove (v := .nil) rfl rfl) ?_))
          all_goals (refine ASL.heavy1 rfl rfl (opBuildSliceI (xs := [.int _ _]) rfl elemA_22 sizeA_3 zeroA_3 rfl rfl rfl rfl (by simp [cells]) (by decide) ?_))
          all_goals (first | (refine ASL.heavy1 rfl rfl (opAppend1 (f := AV.int .i64) rfl elemA_22 rfl sizeA_3 bytesA_3 zeroA_3 rfl rfl rfl rfl (by assumption) (by first | omega | (simp [oneL_len, diagL_len]; omega)) (by first | omega | (simp [oneL_len, diagL_len]; omega)) ?_); rintro v29 G29 hO29 hB29 hN29) | (refine ASL.heavy1 rfl rfl (opAppendL (f := AV.int .i64) rfl elemA_22 rfl sizeA_3 bytesA_3 zeroA_3 rfl rfl rfl (fun _ => rfl) (by assumption) (by first | omega | (simp [oneL_len, diagL_len]; omega)) (by first | omega | (simp [oneL_len, diagL_len]; omega)) ?_); rintro v29 G29 hO29 hB29 hN29))
          all_goals (first | (refine ASL.light rfl rfl (opAssign (v := v29) rfl rfl) ?_) | (refine ASL.light rfl rfl (opAssign (v := v26) rfl rfl) ?_) | (refine ASL.light rfl rfl (opAssign (v := v5) rfl rfl) ?_) | (refine ASL.light rfl rfl (opAssign (v := .list _ _) rfl rfl) ?_) | (refine ASL.light rfl rfl (opAssign (v := .slc _ _ _ _) rfl rfl) ?_) | (refine ASL.light rfl rfl (opAssign (v := .nil) rfl rfl) ?_))
          all_goals (refine ASL.done ?_)))
      all_goals (refine AWP.lastR rfl ?_)
      all_goals (refine ASL.light rfl rfl (opMove (v := .int _ _) rfl rfl) ?_)
      all_goals (first | (refine ASL.light rfl rfl (opAdd rfl rfl rfl (by first | omega | (simp [oneL_len, diagL_len]; omega))) ?_) | (refine ASL.light rfl rfl (opInt rfl rfl rfl rfl) ?_))
      all_goals (refine ASL.light rfl rfl (opAssign (v := .int _ _) rfl rfl) ?_)
      all_goals (refine ASL.done ?_)
      all_goals (exact absurd (by assumption) hn)))
  all_goals (refine AWP.seqR rfl ?_)
  all_goals (first | (refine ASL.light rfl rfl (opMove (v := v29) rfl rfl) ?_) | (refine ASL.light rfl rfl (opMove (v := v26) rfl rfl) ?_) | (refine ASL.light rfl rfl (opMove (v := v5) rfl rfl) ?_) | (refine ASL.light rfl rfl (opMove (v := .list _ _) rfl rfl) ?_) | (refine ASL.light rfl rfl (opMove (v := .slc _ _ _ _) rfl rfl) ?_) | (refine ASL.light rfl rfl (opMove (v := .nil) rfl rfl) ?_))
  all_goals (first | (refine ASL.light rfl rfl (opAssign (v := v29) rfl rfl) ?_) | (refine ASL.light rfl rfl (opAssign (v := v26) rfl rfl) ?_) | (refine ASL.light rfl rfl (opAssign (v := v5) rfl rfl) ?_) | (refine ASL.light rfl rfl (opAssign (v := .list _ _) rfl rfl) ?_) | (refine ASL.light rfl rfl (opAssign (v := .slc _ _ _ _) rfl rfl) ?_) | (refine ASL.light rfl rfl (opAssign (v := .nil) rfl rfl) ?_))
  all_goals (refine ASL.done ?_)
  all_goals (refine AWP.ret ?_)
  all_goals (repeat with_reducible refine QThen.ret1 ?_)
  all_goals (exact QRet.one rfl rfl hO0)

set_option maxRecDepth 10000 in
theorem spec_BoxOne_yes (m : Nat) (hn : 1 ≤ m ∧ m ≤ 4) : PO Try.prog 19 [.int .i64 m] 1 ((boxOneL m).map (AV.int .i64)) := by
  refine HC.enter Try.func19 rfl Try.ntmps19 (by simp) ?_
  obtain ⟨hm1, hm2, hm3, hm4, hm5⟩ := mm4 hn; rw [boxOneL_yes m hn]
  all_goals (refine AWP.seqR rfl ?_)
  all_goals (first | (refine ASL.light rfl rfl (opAssign (v := v) rfl rfl) ?_) | (refine ASL.light rfl rfl (opAssign (v := .list _ _) rfl rfl) ?_) | (refine ASL.light rfl rfl (opAssign (v := .slc _ _ _ _) rfl rfl) ?_) | (refine ASL.light rfl rfl (opAssign (v := .nil) rfl rfl) ?_))
  all_goals (refine ASL.done ?_)
  all_goals (refine AWP.seqR rfl ?_)
  all_goals (refine ASL.heavy1 rfl rfl (opBuildSlice (xs := []) rfl elemA_22 sizeA_3 zeroA_3 rfl rfl rfl rfl (by simp [cells]) (by decide) ?_); rintro v5 G5 hO5 hK5 hN5 -)
  all_goals (first | (refine ASL.light rfl rfl (opAssign (v := v5) rfl rfl) ?_) | (refine ASL.light rfl rfl (opAssign (v := v) rfl rfl) ?_) | (refine ASL.light rfl rfl (opAssign (v := .list _ _) rfl rfl) ?_) | (refine ASL.light rfl rfl (opAssign (v := .slc _ _ _ _) rfl rfl) ?_) | (refine ASL.light rfl rfl (opAssign (v := .nil) rfl rfl) ?_))
  all_goals (refine ASL.done ?_)
  all_goals (refine AWP.seq ?_)
  all_goals (refine AWP.seqR rfl ?_)
  all_goals (refine ASL.light rfl rfl (opAssign (v := .int _ _) rfl rfl) ?_)
  all_goals (refine ASL.done ?_)
  all_goals (refine AWP.block ?_)
  all_goals (refine AWP.loopL (α := Nat × AV) (fun p => [(0, .int .i64 m), (3, p.2), (4, .int .i64 p.1)]) (fun p G => Own 1 G p.2 ((oneL m p.1).map (AV.int .i64))) (fun p => m * m - p.1) (fun p => p.1 ≤ m * m) (0, v5) (by simp) ⟨rfl, rfl, rfl, trivial⟩ hO5 ?_)
  rintro ⟨i, v⟩ G0 hI0 hO0
  simp only at *
  all_goals (refine AWP.seq ?_)
  all_goals (refine AWP.seqR rfl ?_)
  all_goals (refine ASL.light rfl rfl (opMove (v := .int _ _) rfl rfl) ?_)
  all_goals (refine ASL.light rfl rfl (opMove (v := .int _ _) rfl rfl) ?_)
  all_goals (refine ASL.light rfl rfl (opMove (v := .int _ _) rfl rfl) ?_)
  all_goals (first | (refine ASL.light rfl rfl (opMul rfl rfl rfl (by first | omega | (simp [oneL_len, diagL_len]; omega))) ?_) | (refine ASL.light rfl rfl (opInt rfl rfl rfl rfl) ?_))
  all_goals (refine ASL.dec rfl rfl (opInt rfl rfl rfl rfl) ?_ ?_ <;> intro h10)
  all_goals (refine ASL.light rfl rfl (opMove (v := .bool _) rfl rfl) ?_)
  all_goals (first | (refine ASL.off rfl rfl ?_) | (refine ASL.light rfl rfl (opMove (v := .int _ _) rfl rfl) ?_))
  all_goals (first | (refine ASL.off rfl rfl ?_) | (refine ASL.callD rfl rfl rfl rfl call_63 (spec_l1In _ _ _) rfl ?_ ?_ <;> intro h13) | (refine ASL.callRD rfl rfl rfl rfl call_63 (by exact ⟨by first | exact RA.same _ | exact RA.own (by assumption), by first | exact RA.same _ | exact RA.own (by assumption), by first | exact RA.same _ | exact RA.own (by assumption), trivial⟩) (spec_l1In _ _ _) ?_ ?_ <;> intro h13))
  all_goals (refine ASL.light rfl rfl (opPick (v := .bool _) rfl rfl rfl) ?_)
  all_goals (refine ASL.done ?_)
  all_goals (first
    | (
      refine AWP.condF rfl ?_
      all_goals (refine AWP.exit ?_))
    | (
      refine AWP.condT rfl ?_
      all_goals (refine AWP.skip ?_)
      all_goals (refine AWP.seq ?_)
      all_goals (refine AWP.block ?_)
      all_goals (refine AWP.seqD [(0, false), (1, false), (2, false), (3, false), (4, false), (5, false), (6, false)] mixed (by kernel_rfl) rfl ?_)
      all_goals (refine ARL.light0 rfl rfl rfl (opMove (v := .int _ _) rfl rfl) ?_)
      all_goals (refine ARL.light0 rfl rfl rfl (opMove (v := .int _ _) rfl rfl) ?_)
      all_goals (refine ARL.light0 rfl rfl rfl (opQuoN rfl rfl rfl rfl (by omega) (by omega)) ?_)
      all_goals (refine ARL.light0 rfl rfl rfl (opMove (v := .int _ _) rfl rfl) ?_)
      all_goals (refine ARL.light0 rfl rfl rfl (opMove (v := .int _ _) rfl rfl) ?_)
      all_goals (refine ARL.light0 rfl rfl rfl (opRemN rfl rfl rfl rfl (by omega) (by omega)) ?_)
      all_goals (refine ARL.dec rfl rfl rfl (opInt rfl rfl rfl rfl) ?_ ?_ <;> intro h23)
      all_goals (refine ARL.done ?_)
      all_goals (first
        | (
          refine AWP.condT rfl ?_
          all_goals (refine AWP.lastR rfl ?_)
          all_goals (first | (refine ASL.light rfl rfl (opMove (v := v5) rfl rfl) ?_) | (refine ASL.light rfl rfl (opMove (v := v) rfl rfl) ?_) | (refine ASL.light rfl rfl (opMove (v := .list _ _) rfl rfl) ?_) | (refine ASL.light rfl rfl (opMove (v := .slc _ _ _ _) rfl rfl) ?_) | (refine ASL.light rfl rfl (opMove (v := .nil) rfl rfl) ?_))
          all_goals (refine ASL.heavy1 rfl rfl (opBuildSliceI (xs := [.int _ _]) rfl elemA_22 sizeA_3 zeroA_3 rfl rfl rfl rfl (by simp [cells]) (by decide) ?_))
          all_goals (first | (refine ASL.heavy1 rfl rfl (opAppend1 (f := AV.int .i64) rfl elemA_22 rfl sizeA_3 bytesA_3 zeroA_3 rfl rfl rfl rfl (by assumption) (by first | omega | (simp [oneL_len, diagL_len]; omega)) (by first | omega | (simp [oneL_len, diagL_len]; omega)) ?_); rintro v26 G26 hO26 hB26 hN26) | (refine ASL.heavy1 rfl rfl (opAppendL (f := AV.int .i64) rfl elemA_22 rfl sizeA_3 bytesA_3 zeroA_3 rfl rfl rfl (fun _ => rfl) (by assumption) (by first | omega | (simp [oneL_len, diagL_len]; omega)) (by first | omega | (simp [oneL_len, diagL_len]; omega)) ?_); rintro v26 G26 hO26 hB26 hN26))
          all_goals (first | (refine ASL.light rfl rfl (opAssign (v := v26) rfl rfl) ?_) | (refine ASL.light rfl rfl (opAssign (v := v5) rfl rfl) ?_) | (refine ASL.light rfl rfl (opAssign (v := v) rfl rfl) ?_) | (refine ASL.light rfl rfl (opAssign (v := .list _ _) rfl rfl) ?_) | (refine ASL.light rfl rfl (opAssign (v := .slc _ _ _ _) rfl rfl) ?_) | (refine ASL.light rfl rfl (opAssign (v := .nil) rfl rfl) ?_))
          all_goals (refine ASL.done ?_))
        | (
          refine AWP.condF rfl ?_
          all_goals (refine AWP.lastR rfl ?_)
          all_goals (first | (refine ASL.light rfl rfl (opMove (v := v26) rfl rfl) ?_) | (refine ASL.light rfl rfl (opMove (v := v5) rfl rfl) ?_) | (refine ASL.light rfl rfl (opMove (v := v) rfl rfl) ?_) | (refine ASL.light rfl rfl (opMove (v := .list _ _) rfl rfl) ?_) | (refine ASL.light rfl rfl (opMove (v := .slc _ _ _ _) rfl rfl) ?_) | (refine ASL.light rfl rfl (opMove (v := .nil) rfl rfl) ?_))
          all_goals (refine ASL.heavy1 rfl rfl (opBuildSliceI (xs := [.int _ _]) rfl elemA_22 sizeA_3 zeroA_3 rfl rfl rfl rfl (by simp [cells]) (by decide) ?_))
          all_goals (first | (refine ASL.heavy1 rfl rfl (opAppend1 (f := AV.int .i64) rfl elemA_22 rfl sizeA_3 bytesA_3 zeroA_3 rfl rfl rfl rfl (by assumption) (by first | omega | (simp [oneL_len, diagL_len]; omega)) (by first | omega | (simp [oneL_len, diagL_len]; omega)) ?_); rintro v29 G29 hO29 hB29 hN29) | (refine ASL.heavy1 rfl rfl (opAppendL (f := AV.int .i64) rfl elemA_22 rfl sizeA_3 bytesA_3 zeroA_3 rfl rfl rfl (fun _ => rfl) (by assumption) (by first | omega | (simp [oneL_len, diagL_len]; omega)) (by first | omega | (simp [oneL_len, diagL_len]; omega)) ?_); rintro v29 G29 hO29 hB29 hN29))
          all_goals (first | (refine ASL.light rfl rfl (opAssign (v := v29) rfl rfl) ?_) | (refine ASL.light rfl rfl (opAssign (v := v26) rfl rfl) ?_) | (refine ASL.light rfl rfl (opAssign (v := v5) rfl rfl) ?_) | (refine ASL.light rfl rfl (opAssign (v := v) rfl rfl) ?_) | (refine ASL.light rfl rfl (opAssign (v := .list _ _) rfl rfl) ?_) | (refine ASL.light rfl rfl (opAssign (v := .slc _ _ _ _) rfl rfl) ?_) | (refine ASL.light rfl rfl (opAssign (v := .nil) rfl rfl) ?_))
          all_goals (refine ASL.done ?_)))
      all_goals (refine AWP.lastR rfl ?_)
      all_goals (refine ASL.light rfl rfl (opMove (v := .int _ _) rfl rfl) ?_)
      all_goals (first | (refine ASL.light rfl rfl (opAdd rfl rfl rfl (by first | omega | (simp [oneL_len, diagL_len]; omega))) ?_) | (refine ASL.light rfl rfl (opInt rfl rfl rfl rfl) ?_))
      all_goals (refine ASL.light rfl rfl (opAssign (v := .int _ _) rfl rfl) ?_)
      all_goals (refine ASL.done ?_)
      all_goals (first | exact ⟨(i + 1, v26), by simp only; omega, by simp only; omega, ⟨rfl, rfl, rfl, trivial⟩, by have := hO26; rw [oneL_T (by assumption)] at this; exact this⟩ | exact ⟨(i + 1, v29), by simp only; omega, by simp only; omega, ⟨rfl, rfl, rfl, trivial⟩, by have := hO29; rw [oneL_F (by assumption)] at this; exact this⟩ )))
  all_goals (refine AWP.seqR rfl ?_)
  all_goals (first | (refine ASL.light rfl rfl (opMove (v := v29) rfl rfl) ?_) | (refine ASL.light rfl rfl (opMove (v := v26) rfl rfl) ?_) | (refine ASL.light rfl rfl (opMove (v := v5) rfl rfl) ?_) | (refine ASL.light rfl rfl (opMove (v := v) rfl rfl) ?_) | (refine ASL.light rfl rfl (opMove (v := .list _ _) rfl rfl) ?_) | (refine ASL.light rfl rfl (opMove (v := .slc _ _ _ _) rfl rfl) ?_) | (refine ASL.light rfl rfl (opMove (v := .nil) rfl rfl) ?_))
  all_goals (first | (refine ASL.light rfl rfl (opAssign (v := v29) rfl rfl) ?_) | (refine ASL.light rfl rfl (opAssign (v := v26) rfl rfl) ?_) | (refine ASL.light rfl rfl (opAssign (v := v5) rfl rfl) ?_) | (refine ASL.light rfl rfl (opAssign (v := v) rfl rfl) ?_) | (refine ASL.light rfl rfl (opAssign (v := .list _ _) rfl rfl) ?_) | (refine ASL.light rfl rfl (opAssign (v := .slc _ _ _ _) rfl rfl) ?_) | (refine ASL.light rfl rfl (opAssign (v := .nil) rfl rfl) ?_))
  all_goals (refine ASL.done ?_)
  all_goals (refine AWP.ret ?_)
  all_goals (repeat with_reducible refine QThen.ret1 ?_)
  all_goals (exact QRet.one rfl rfl (by have := hO0; rw [show i = m * m by omega] at this; exact this))

theorem spec_BoxOne (n : Int) : PO Try.prog 19 [.int .i64 n] 1 ((boxOneL n).map (AV.int .i64)) := by
  by_cases h : 1 ≤ n ∧ n ≤ 4
  · obtain ⟨m, rfl, hm⟩ := one4 h; exact spec_BoxOne_yes m hm
  · exact spec_BoxOne_no n h
set_option maxRecDepth 10000 in
theorem impl_boxOne (m : Nat) (hn : 1 ≤ m ∧ m ≤ 4) : PO Try.prog 66 [.int .i64 m] 1 ((oneL m (m * m)).map (AV.int .i64)) := by
  refine HC.enter Try.func66 rfl Try.ntmps66 (by simp) ?_
  obtain ⟨hm1, hm2, hm3, hm4, hm5⟩ := mm4 hn
  all_goals (refine AWP.seqR rfl ?_)
  all_goals (first | (refine ASL.light rfl rfl (opAssign (v := .list _ _) rfl rfl) ?_) | (refine ASL.light rfl rfl (opAssign (v := .slc _ _ _ _) rfl rfl) ?_) | (refine ASL.light rfl rfl (opAssign (v := .nil) rfl rfl) ?_))
  all_goals (refine ASL.done ?_)
  all_goals (refine AWP.seqR rfl ?_)
  all_goals (refine ASL.light rfl rfl (opMove (v := .int _ _) rfl rfl) ?_)
  all_goals (refine ASL.light rfl rfl (opMove (v := .int _ _) rfl rfl) ?_)
  all_goals (first | (refine ASL.light rfl rfl (opMul rfl rfl rfl (by first | omega | (simp [oneL_len, diagL_len]; omega))) ?_) | (refine ASL.light rfl rfl (opInt rfl rfl rfl rfl) ?_))
  all_goals (refine ASL.heavy1 rfl rfl (opMakeM (f := AV.int .i64) (z0 := 0) rfl elemA_22 sizeA_3 bytesA_3 zeroA_3 rfl rfl (by decide) rfl rfl (by omega) (by omega) (by omega) ?_); rintro b8 c8 G8 hO8 hK8 hN8)
  all_goals (first | (refine ASL.light rfl rfl (opAssign (v := .list _ _) rfl rfl) ?_) | (refine ASL.light rfl rfl (opAssign (v := .slc _ _ _ _) rfl rfl) ?_) | (refine ASL.light rfl rfl (opAssign (v := .nil) rfl rfl) ?_))
  all_goals (refine ASL.done ?_)
  all_goals (refine AWP.seq ?_)
  all_goals (refine AWP.seqR rfl ?_)
  all_goals (refine ASL.light rfl rfl (opMove (v := .int _ _) rfl rfl) ?_)
  all_goals (refine ASL.light rfl rfl (opMove (v := .int _ _) rfl rfl) ?_)
  all_goals (refine ASL.done ?_)
  all_goals (refine AWP.block ?_)
  rw [hm1, Int.toNat_natCast] at *
  all_goals (refine AWP.loopL (α := Nat) (fun i => [(0, .int .i64 m), (3, .slc b8 0 (m * m) c8), (9, .int .i64 m), (10, .int .i64 i)]) (fun i G => Own 1 G (.slc b8 0 (m * m) c8) ((diagL m i).map (AV.int .i64))) (fun i => m - i) (fun i => i ≤ m) 0 (by omega) ⟨rfl, rfl, rfl, rfl, trivial⟩ (by rw [← diagL_0]; exact hO8) ?_)
  rintro i G0 hI0 hO0
  all_goals (refine AWP.seqR rfl ?_)
  all_goals (refine ASL.dec rfl rfl (opInt rfl rfl rfl rfl) ?_ ?_ <;> intro h11)
  all_goals (refine ASL.done ?_)
  all_goals (refine AWP.seq ?_)
  all_goals (first
    | (
      refine AWP.condF rfl ?_
      all_goals (refine AWP.exit ?_))
    | (
      refine AWP.condT rfl ?_
      all_goals (refine AWP.skip ?_)
      all_goals (refine AWP.seq ?_)
      all_goals (refine AWP.block ?_)
      all_goals (refine AWP.seqR rfl ?_)
      all_goals (refine ASL.light rfl rfl (opMove (v := .int _ _) rfl rfl) ?_)
      all_goals (refine ASL.light rfl rfl (opAssign (v := .int _ _) rfl rfl) ?_)
      all_goals (refine ASL.done ?_)
      all_goals (refine AWP.lastR rfl ?_)
      all_goals (first | (refine ASL.light rfl rfl (opMove (v := .list _ _) rfl rfl) ?_) | (refine ASL.light rfl rfl (opMove (v := .slc _ _ _ _) rfl rfl) ?_) | (refine ASL.light rfl rfl (opMove (v := .nil) rfl rfl) ?_))
      all_goals (refine ASL.light rfl rfl (opMove (v := .int _ _) rfl rfl) ?_)
      all_goals (refine ASL.light rfl rfl (opMove (v := .int _ _) rfl rfl) ?_)
      all_goals (have hq := pm4 hn (show i < m by omega); refine ASL.light rfl rfl (opMul rfl rfl rfl (by omega)) ?_)
      all_goals (refine ASL.light rfl rfl (opMove (v := .int _ _) rfl rfl) ?_)
      all_goals (first | (refine ASL.light rfl rfl (opAdd rfl rfl rfl (by first | omega | (simp [oneL_len, diagL_len]; omega))) ?_) | (refine ASL.light rfl rfl (opInt rfl rfl rfl rfl) ?_))
      all_goals (first | (refine ASL.light rfl rfl (opIndexIN rfl rfl rfl elemA_22 sizeA_3 (by first | omega | (simp [oneL_len, diagL_len]; omega))) ?_) | (refine ASL.light rfl rfl (opIndexI rfl rfl rfl elemA_22 sizeA_3 (by first | omega | (simp [oneL_len, diagL_len]; omega)) (by first | omega | (simp [oneL_len, diagL_len]; omega))) ?_) | (refine ASL.light rfl rfl (opIndexN rfl rfl rfl elemA_22 sizeA_3 (by first | omega | (simp [oneL_len, diagL_len]; omega)) rfl) ?_) | (refine ASL.light rfl rfl (opIndexMap rfl rfl rfl elemA_22 sizeA_3 (by first | omega | (simp [oneL_len, diagL_len]; omega)) (by first | omega | (simp [oneL_len, diagL_len]; omega)) rfl) ?_) | (refine ASL.light rfl rfl (opIndexAddrN rfl rfl rfl elemA_22 sizeA_3 (by first | omega | (simp [oneL_len, diagL_len]; omega))) ?_) | (refine ASL.light rfl rfl (opIndexAddr rfl rfl rfl elemA_22 sizeA_3 (by first | omega | (simp [oneL_len, diagL_len]; omega)) (by first | omega | (simp [oneL_len, diagL_len]; omega)) rfl) ?_))
      all_goals (refine ASL.store rfl rfl (opStoreOwnI rfl sizeA_3 rfl rfl (by assumption) (by first | first | omega | (simp [oneL_len, diagL_len]; omega) | (simp; first | omega | (simp [oneL_len, diagL_len]; omega))) ?_); rintro Gs1 hOs1 hBs1)
      all_goals (refine ASL.done ?_)
      all_goals (refine AWP.lastR rfl ?_)
      all_goals (first | (refine ASL.light rfl rfl (opAdd rfl rfl rfl (by first | omega | (simp [oneL_len, diagL_len]; omega))) ?_) | (refine ASL.light rfl rfl (opInt rfl rfl rfl rfl) ?_))
      all_goals (refine ASL.light rfl rfl (opMove (v := .int _ _) rfl rfl) ?_)
      all_goals (refine ASL.done ?_)
      all_goals (exact ⟨i + 1, by omega, by omega, ⟨rfl, rfl, rfl, rfl, trivial⟩, by have h := hOs1; rw [diagL_step m (by omega) i (by omega)] at h; exact h⟩)))
  all_goals (refine AWP.seqR rfl ?_)
  all_goals (first | (refine ASL.light rfl rfl (opMove (v := .list _ _) rfl rfl) ?_) | (refine ASL.light rfl rfl (opMove (v := .slc _ _ _ _) rfl rfl) ?_) | (refine ASL.light rfl rfl (opMove (v := .nil) rfl rfl) ?_))
  all_goals (first | (refine ASL.light rfl rfl (opAssign (v := .list _ _) rfl rfl) ?_) | (refine ASL.light rfl rfl (opAssign (v := .slc _ _ _ _) rfl rfl) ?_) | (refine ASL.light rfl rfl (opAssign (v := .nil) rfl rfl) ?_))
  all_goals (refine ASL.done ?_)
  all_goals (refine AWP.ret ?_)
  all_goals (repeat with_reducible refine QThen.ret1 ?_)
  all_goals (exact QRet.one rfl rfl (by rw [← diagL_end m (by omega), show m = i by omega]; have h := hO0; rw [show m = i by omega] at h; exact h))

set_option maxRecDepth 10000 in
theorem impl_BoxOne (n : Int) : PO Try.prog 20 [.int .i64 n] 1 ((boxOneL n).map (AV.int .i64)) := by
  refine HC.enter Try.func20 rfl Try.ntmps20 (by simp) ?_
  all_goals (refine AWP.seqR rfl ?_)
  all_goals (first | (refine ASL.light rfl rfl (opAssign (v := v7) rfl rfl) ?_) | (refine ASL.light rfl rfl (opAssign (v := .list _ _) rfl rfl) ?_) | (refine ASL.light rfl rfl (opAssign (v := .slc _ _ _ _) rfl rfl) ?_) | (refine ASL.light rfl rfl (opAssign (v := .nil) rfl rfl) ?_))
  all_goals (refine ASL.done ?_)
  all_goals (refine AWP.seq ?_)
  all_goals (refine AWP.seqR rfl ?_)
  all_goals (refine ASL.light rfl rfl (opMove (v := .int _ _) rfl rfl) ?_)
  all_goals (first | (refine ASL.callD rfl rfl rfl rfl call_64 (impl_isBoxed _) rfl ?_ ?_ <;> intro h4) | (refine ASL.callRD rfl rfl rfl rfl call_64 (by exact ⟨by first | exact RA.same _ | exact RA.own (by assumption), trivial⟩) (impl_isBoxed _) ?_ ?_ <;> intro h4))
  all_goals (refine ASL.light rfl rfl (opNot rfl rfl) ?_)
  all_goals (refine ASL.done ?_)
  all_goals (first
    | (
      refine AWP.condT rfl ?_
      all_goals (refine AWP.seqR rfl ?_)
      all_goals (first | (refine ASL.light rfl rfl (opAssign (v := v7) rfl rfl) ?_) | (refine ASL.light rfl rfl (opAssign (v := .list _ _) rfl rfl) ?_) | (refine ASL.light rfl rfl (opAssign (v := .slc _ _ _ _) rfl rfl) ?_) | (refine ASL.light rfl rfl (opAssign (v := .nil) rfl rfl) ?_))
      all_goals (refine ASL.done ?_)
      all_goals (refine AWP.ret ?_)
      all_goals (repeat with_reducible refine QThen.ret1 ?_)
      all_goals (refine QRet.one rfl rfl ?_; first | (rw [boxOneL_yes m hm]; exact hO7) | (rw [boxOneL_no (by assumption)]; exact Own.nil _ _)))
    | (
      refine AWP.condF rfl ?_
      all_goals (refine AWP.skip ?_)
      all_goals (refine AWP.seqR rfl ?_)
      all_goals (refine ASL.light rfl rfl (opMove (v := .int _ _) rfl rfl) ?_)
      all_goals (obtain ⟨m, rfl, hm⟩ := one4 (by assumption); refine ASL.callO rfl rfl rfl rfl call_66 (impl_boxOne m hm) rfl ?_; rintro v7 G7 hO7 hK7 hN7)
      all_goals (first | (refine ASL.light rfl rfl (opAssign (v := v7) rfl rfl) ?_) | (refine ASL.light rfl rfl (opAssign (v := .list _ _) rfl rfl) ?_) | (refine ASL.light rfl rfl (opAssign (v := .slc _ _ _ _) rfl rfl) ?_) | (refine ASL.light rfl rfl (opAssign (v := .nil) rfl rfl) ?_))
      all_goals (refine ASL.done ?_)
      all_goals (refine AWP.ret ?_)
      all_goals (repeat with_reducible refine QThen.ret1 ?_)
      all_goals (refine QRet.one rfl rfl ?_; first | (rw [boxOneL_yes m hm]; exact hO7) | (rw [boxOneL_no (by assumption)]; exact Own.nil _ _))))

set_option maxRecDepth 10000 in
theorem laws_markIntS (v : AV) (xs : List Int) (k : Int) (H : Heap) (hO : Own 1 H v (xs.map (AV.int .i64))) (hk : 0 ≤ k ∧ k + xs.length ≤ 4611686018427387904) : HC Try.prog 21 [v, .int .i64 k] H (fun r G => r = .int .i64 (k + xs.length) ∧ Own 1 G v ((marks k xs.length).map (AV.int .i64)) ∧ Beside v H G) := by
  refine HC.enter Try.func21 rfl Try.ntmps21 (by simp) ?_
  all_goals (refine AWP.seqR rfl ?_)
  all_goals (refine ASL.light rfl rfl (opAssign (v := .int _ _) rfl rfl) ?_)
  all_goals (refine ASL.done ?_)
  all_goals (refine AWP.seq ?_)
  all_goals (refine AWP.seqR rfl ?_)
  all_goals (refine ASL.light rfl rfl (opAssign (v := .int _ _) rfl rfl) ?_)
  all_goals (refine ASL.done ?_)
  all_goals (refine AWP.block ?_)
  all_goals (refine AWP.loopL (α := Nat) (fun i => [(0, v), (1, .int .i64 (k + i)), (5, .int .i64 i)]) (fun i G => Own 1 G v ((markL k i xs).map (AV.int .i64)) ∧ Beside v H G) (fun i => xs.length - i) (fun i => i ≤ xs.length) 0 (by omega) ⟨rfl, (by simp; rfl), rfl, trivial⟩ ⟨by rw [markL_0]; exact hO, Beside.refl _ _⟩ ?_)
  rintro i G0 hI0 ⟨hO0, hB0⟩
  have hl0 := markL_length k xs hI0
  all_goals (refine AWP.seq ?_)
  all_goals (refine AWP.seqR rfl ?_)
  all_goals (refine ASL.light rfl rfl (opMove (v := .int _ _) rfl rfl) ?_)
  all_goals (first | (refine ASL.light rfl rfl (opMove (v := v) rfl rfl) ?_) | (refine ASL.light rfl rfl (opMove (v := .list _ _) rfl rfl) ?_) | (refine ASL.light rfl rfl (opMove (v := .slc _ _ _ _) rfl rfl) ?_) | (refine ASL.light rfl rfl (opMove (v := .nil) rfl rfl) ?_))
  all_goals (first | (refine ASL.light rfl rfl (opLenOwn rfl rfl rfl lenT_22 rfl (by assumption)) ?_) | (refine ASL.light rfl rfl (opLenMap rfl rfl rfl lenT_22 rfl) ?_) | (refine ASL.light rfl rfl (opLenOf rfl rfl rfl lenT_22 rfl rfl) ?_))
  all_goals (refine ASL.dec rfl rfl (opInt rfl rfl rfl rfl) ?_ ?_ <;> intro h9)
  all_goals (refine ASL.done ?_)
  all_goals (first
    | (
      refine AWP.condF rfl ?_
      all_goals (refine AWP.exit ?_))
    | (
      refine AWP.condT rfl ?_
      all_goals (refine AWP.skip ?_)
      all_goals (refine AWP.seq ?_)
      all_goals (refine AWP.block ?_)
      all_goals (refine AWP.seqR rfl ?_)
      all_goals (first | (refine ASL.light rfl rfl (opMove (v := v) rfl rfl) ?_) | (refine ASL.light rfl rfl (opMove (v := .list _ _) rfl rfl) ?_) | (refine ASL.light rfl rfl (opMove (v := .slc _ _ _ _) rfl rfl) ?_) | (refine ASL.light rfl rfl (opMove (v := .nil) rfl rfl) ?_))
      all_goals (refine ASL.light rfl rfl (opMove (v := .int _ _) rfl rfl) ?_)
      all_goals (refine ASL.light rfl rfl (opMove (v := .int _ _) rfl rfl) ?_)
      all_goals (first | (refine ASL.light rfl rfl (opIndexOwn rfl elemA_22 sizeA_3 rfl (by assumption) rfl (by first | omega | (rw [markL_length k xs (by omega)]; omega))) ?_) | (refine ASL.light rfl rfl (opIndexOwnI rfl elemA_22 sizeA_3 rfl (by assumption) rfl (by first | omega | (rw [markL_length k xs (by omega)]; omega)) (by first | omega | (rw [markL_length k xs (by omega)]; omega))) ?_) | (refine ASL.light rfl rfl (opIndexIN rfl rfl rfl elemA_22 sizeA_3 (by first | omega | (rw [markL_length k xs (by omega)]; omega))) ?_) | (refine ASL.light rfl rfl (opIndexI rfl rfl rfl elemA_22 sizeA_3 (by first | omega | (rw [markL_length k xs (by omega)]; omega)) (by first | omega | (rw [markL_length k xs (by omega)]; omega))) ?_) | (refine ASL.light rfl rfl (opIndexN rfl rfl rfl elemA_22 sizeA_3 (by first | omega | (rw [markL_length k xs (by omega)]; omega)) rfl) ?_) | (refine ASL.light rfl rfl (opIndexMap rfl rfl rfl elemA_22 sizeA_3 (by first | omega | (rw [markL_length k xs (by omega)]; omega)) (by first | omega | (rw [markL_length k xs (by omega)]; omega)) rfl) ?_) | (refine ASL.light rfl rfl (opIndexAddrN rfl rfl rfl elemA_22 sizeA_3 (by first | omega | (rw [markL_length k xs (by omega)]; omega))) ?_) | (refine ASL.light rfl rfl (opIndexAddr rfl rfl rfl elemA_22 sizeA_3 (by first | omega | (rw [markL_length k xs (by omega)]; omega)) (by first | omega | (rw [markL_length k xs (by omega)]; omega)) rfl) ?_))
      all_goals (first | (refine ASL.store rfl rfl (opStoreRowI rfl sizeA_3 rfl rfl (by assumption) (by first | first | omega | (rw [markL_length k xs (by omega)]; omega) | (simp; first | omega | (rw [markL_length k xs (by omega)]; omega))) ?_); rintro Gs1 hOs1 hBs1) | (refine ASL.store rfl rfl (opStoreOwnI rfl sizeA_3 rfl rfl (by assumption) (by first | first | omega | (rw [markL_length k xs (by omega)]; omega) | (simp; first | omega | (rw [markL_length k xs (by omega)]; omega))) ?_); rintro Gs1 hOs1 hBs1))
      all_goals (refine ASL.done ?_)
      all_goals (refine AWP.lastR rfl ?_)
      all_goals (refine ASL.light rfl rfl (opMove (v := .int _ _) rfl rfl) ?_)
      all_goals (first | (refine ASL.light rfl rfl (opAdd rfl rfl rfl (by first | omega | (rw [markL_length k xs (by omega)]; omega))) ?_) | (refine ASL.light rfl rfl (opInt rfl rfl rfl rfl) ?_))
      all_goals (refine ASL.light rfl rfl (opAssign (v := .int _ _) rfl rfl) ?_)
      all_goals (refine ASL.done ?_)
      all_goals (refine AWP.lastR rfl ?_)
      all_goals (refine ASL.light rfl rfl (opMove (v := .int _ _) rfl rfl) ?_)
      all_goals (first | (refine ASL.light rfl rfl (opAdd rfl rfl rfl (by first | omega | (rw [markL_length k xs (by omega)]; omega))) ?_) | (refine ASL.light rfl rfl (opInt rfl rfl rfl rfl) ?_))
      all_goals (refine ASL.light rfl rfl (opAssign (v := .int _ _) rfl rfl) ?_)
      all_goals (refine ASL.done ?_)
      all_goals (exact ⟨i + 1, by omega, by omega, ⟨rfl, (by simp [Int.add_assoc]; rfl), rfl, trivial⟩, by have h := hOs1; rw [markL_step k (by omega)] at h; exact h, hB0.trans hBs1⟩)))
  all_goals (refine AWP.seqR rfl ?_)
  all_goals (refine ASL.light rfl rfl (opMove (v := .int _ _) rfl rfl) ?_)
  all_goals (refine ASL.light rfl rfl (opAssign (v := .int _ _) rfl rfl) ?_)
  all_goals (refine ASL.done ?_)
  all_goals (refine AWP.ret ?_)
  all_goals (repeat with_reducible refine QThen.ret1 ?_)
  all_goals (exact QRet.one rfl rfl ⟨by (rw [show i = xs.length by omega]; rfl), by have h := hO0; rw [show i = xs.length by omega, markL_end] at h; exact h, hB0⟩)

set_option maxRecDepth 10000 in
theorem laws_heldIntS (k : Int) (n : Nat) (hk : 0 ≤ k ∧ k + n ≤ 4611686018427387904) : PC Try.prog 22 [ints (marks k n), .int .i64 k] (fun v => v = .int .i64 (k + n)) := by
  refine PC.enter Try.func22 rfl Try.ntmps22 (by simp) ?_
  all_goals (refine AWP.seqR rfl ?_)
  all_goals (refine ASL.light rfl rfl (opAssign (v := .int _ _) rfl rfl) ?_)
  all_goals (refine ASL.done ?_)
  all_goals (refine AWP.seq ?_)
  all_goals (refine AWP.seqR rfl ?_)
  all_goals (refine ASL.light rfl rfl (opAssign (v := .int _ _) rfl rfl) ?_)
  all_goals (refine ASL.done ?_)
  all_goals (refine AWP.block ?_)
  all_goals (refine AWP.loopL (α := Nat) (fun i => [(0, ints (marks k n)), (1, .int .i64 (k + i)), (5, .int .i64 i)]) (fun i G => G = fun _ => none) (fun i => n - i) (fun i => i ≤ n) 0 (by omega) ⟨rfl, (by simp; rfl), rfl, trivial⟩ rfl ?_)
  rintro i G0 hI0 rfl
  have hl0 := marks_length k n
  all_goals (refine AWP.seq ?_)
  all_goals (refine AWP.seqR rfl ?_)
  all_goals (refine ASL.light rfl rfl (opMove (v := .int _ _) rfl rfl) ?_)
  all_goals (first | (refine ASL.light rfl rfl (opMove (v := .list _ _) rfl rfl) ?_) | (refine ASL.light rfl rfl (opMove (v := .slc _ _ _ _) rfl rfl) ?_) | (refine ASL.light rfl rfl (opMove (v := .nil) rfl rfl) ?_))
  all_goals (first | (refine ASL.light rfl rfl (opLenMap rfl rfl rfl lenT_22 rfl) ?_) | (refine ASL.light rfl rfl (opLenOf rfl rfl rfl lenT_22 rfl rfl) ?_))
  all_goals (refine ASL.dec rfl rfl (opInt rfl rfl rfl rfl) ?_ ?_ <;> intro h9)
  all_goals (refine ASL.done ?_)
  all_goals (first
    | (
      refine AWP.condF rfl ?_
      all_goals (refine AWP.exit ?_))
    | (
      refine AWP.condT rfl ?_
      all_goals (refine AWP.skip ?_)
      all_goals (refine AWP.seq ?_)
      all_goals (refine AWP.block ?_)
      all_goals (refine AWP.seq ?_)
      all_goals (refine AWP.seqR rfl ?_)
      all_goals (first | (refine ASL.light rfl rfl (opMove (v := .list _ _) rfl rfl) ?_) | (refine ASL.light rfl rfl (opMove (v := .slc _ _ _ _) rfl rfl) ?_) | (refine ASL.light rfl rfl (opMove (v := .nil) rfl rfl) ?_))
      all_goals (refine ASL.light rfl rfl (opMove (v := .int _ _) rfl rfl) ?_)
      all_goals (first | (refine ASL.light rfl rfl (opIndexIN rfl rfl rfl elemA_22 sizeA_3 (by first | omega | (rw [marks_length]; omega))) ?_) | (refine ASL.light rfl rfl (opIndexI rfl rfl rfl elemA_22 sizeA_3 (by first | omega | (rw [marks_length]; omega)) (by first | omega | (rw [marks_length]; omega))) ?_) | (refine ASL.light rfl rfl (opIndexN rfl rfl rfl elemA_22 sizeA_3 (by first | omega | (rw [marks_length]; omega)) rfl) ?_) | (refine ASL.light rfl rfl (opIndexMap rfl rfl rfl elemA_22 sizeA_3 (by first | omega | (rw [marks_length]; omega)) (by first | omega | (rw [marks_length]; omega)) rfl) ?_) | (refine ASL.light rfl rfl (opIndexAddrN rfl rfl rfl elemA_22 sizeA_3 (by first | omega | (rw [marks_length]; omega))) ?_) | (refine ASL.light rfl rfl (opIndexAddr rfl rfl rfl elemA_22 sizeA_3 (by first | omega | (rw [marks_length]; omega)) (by first | omega | (rw [marks_length]; omega)) rfl) ?_))
      all_goals (first | (refine ASL.light rfl rfl (opLoadR (v := .int _ _) rfl aggA_3 rfl rfl) ?_) | (refine ASL.light rfl rfl (opLoadOwnI rfl aggA_3 rfl (by assumption) (by first | first | omega | (rw [marks_length]; omega) | (simp; first | omega | (rw [marks_length]; omega)))) ?_))
      all_goals (refine ASL.light rfl rfl (opMove (v := .int _ _) rfl rfl) ?_)
      all_goals (refine ASL.dec rfl rfl (opInt rfl rfl rfl rfl) ?_ ?_ <;> intro h17)
      all_goals (refine ASL.done ?_)
      all_goals (first
        | (
          refine AWP.condT rfl ?_
          all_goals (refine AWP.seqR rfl ?_)
          all_goals (refine ASL.light rfl rfl (opAssign (v := .int _ _) rfl rfl) ?_)
          all_goals (refine ASL.done ?_)
          all_goals (refine AWP.ret ?_)
          all_goals (repeat with_reducible refine QThen.ret1 ?_)
          all_goals (first | exact absurd (marks_get k (n := n) (i := i) (by omega)) (by assumption) | exact QRet.int rfl rfl rfl (by rw [show i = n by omega])))
        | (
          refine AWP.condF rfl ?_
          all_goals (refine AWP.skip ?_)
          all_goals (refine AWP.lastR rfl ?_)
          all_goals (refine ASL.light rfl rfl (opMove (v := .int _ _) rfl rfl) ?_)
          all_goals (first | (refine ASL.light rfl rfl (opAdd rfl rfl rfl (by first | omega | (rw [marks_length]; omega))) ?_) | (refine ASL.light rfl rfl (opInt rfl rfl rfl rfl) ?_))
          all_goals (refine ASL.light rfl rfl (opAssign (v := .int _ _) rfl rfl) ?_)
          all_goals (refine ASL.done ?_)))
      all_goals (refine AWP.lastR rfl ?_)
      all_goals (refine ASL.light rfl rfl (opMove (v := .int _ _) rfl rfl) ?_)
      all_goals (first | (refine ASL.light rfl rfl (opAdd rfl rfl rfl (by first | omega | (rw [marks_length]; omega))) ?_) | (refine ASL.light rfl rfl (opInt rfl rfl rfl rfl) ?_))
      all_goals (refine ASL.light rfl rfl (opAssign (v := .int _ _) rfl rfl) ?_)
      all_goals (refine ASL.done ?_)
      all_goals (exact ⟨i + 1, by omega, by omega, ⟨rfl, (by simp [Int.add_assoc]; rfl), rfl, trivial⟩, rfl⟩)))
  all_goals (refine AWP.seqR rfl ?_)
  all_goals (refine ASL.light rfl rfl (opMove (v := .int _ _) rfl rfl) ?_)
  all_goals (refine ASL.light rfl rfl (opAssign (v := .int _ _) rfl rfl) ?_)
  all_goals (refine ASL.done ?_)
  all_goals (refine AWP.ret ?_)
  all_goals (repeat with_reducible refine QThen.ret1 ?_)
  all_goals (first | exact absurd (marks_get k (n := n) (i := i) (by omega)) (by assumption) | exact QRet.int rfl rfl rfl (by rw [show i = n by omega]))

set_option maxRecDepth 10000 in
theorem laws_FnExactBoxOne (n : Int) : PC Try.prog 4 [.int .i64 n] (fun v => v = .bool true) := by
  refine PC.enter Try.func4 rfl Try.ntmps4 (by simp) ?_
  have hl := boxOneL_len n
  all_goals (refine AWP.seqR rfl ?_)
  all_goals (refine ASL.light rfl rfl (opAssign (v := .bool _) rfl rfl) ?_)
  all_goals (refine ASL.done ?_)
  all_goals (refine AWP.seqR rfl ?_)
  all_goals (refine ASL.light rfl rfl (opMove (v := .int _ _) rfl rfl) ?_)
  all_goals (refine ASL.callP rfl rfl rfl rfl call_19 (PO.list (spec_BoxOne _)) rfl ?_; rintro _ rfl)
  all_goals (first | (refine ASL.light rfl rfl (opAssign (v := .list _ _) rfl rfl) ?_) | (refine ASL.light rfl rfl (opAssign (v := .slc _ _ _ _) rfl rfl) ?_) | (refine ASL.light rfl rfl (opAssign (v := .nil) rfl rfl) ?_))
  all_goals (refine ASL.done ?_)
  all_goals (refine AWP.seqR rfl ?_)
  all_goals (refine ASL.light rfl rfl (opMove (v := .int _ _) rfl rfl) ?_)
  all_goals (first | (refine ASL.callO rfl rfl rfl rfl call_20 (impl_BoxOne _) rfl ?_; rintro v11 G11 hO11 hK11 hN11) | (refine ASL.callOR rfl rfl rfl rfl call_20 (by exact ⟨by first | exact RA.same _ | exact RA.own (by assumption), trivial⟩) (impl_BoxOne _) (by first | exact Scal.ints _ _ | (simp [flat, cells]; done)) ?_; rintro v11 G11 hO11 hK11 hN11))
  all_goals (first | (refine ASL.light rfl rfl (opAssign (v := v11) rfl rfl) ?_) | (refine ASL.light rfl rfl (opAssign (v := .list _ _) rfl rfl) ?_) | (refine ASL.light rfl rfl (opAssign (v := .slc _ _ _ _) rfl rfl) ?_) | (refine ASL.light rfl rfl (opAssign (v := .nil) rfl rfl) ?_))
  all_goals (refine ASL.done ?_)
  all_goals (refine AWP.seq ?_)
  all_goals (refine AWP.seqR rfl ?_)
  all_goals (first | (refine ASL.light rfl rfl (opMove (v := v11) rfl rfl) ?_) | (refine ASL.light rfl rfl (opMove (v := .list _ _) rfl rfl) ?_) | (refine ASL.light rfl rfl (opMove (v := .slc _ _ _ _) rfl rfl) ?_) | (refine ASL.light rfl rfl (opMove (v := .nil) rfl rfl) ?_))
  all_goals (first | (refine ASL.light rfl rfl (opMove (v := v11) rfl rfl) ?_) | (refine ASL.light rfl rfl (opMove (v := .list _ _) rfl rfl) ?_) | (refine ASL.light rfl rfl (opMove (v := .slc _ _ _ _) rfl rfl) ?_) | (refine ASL.light rfl rfl (opMove (v := .nil) rfl rfl) ?_))
  all_goals (first | (refine ASL.callD rfl rfl rfl rfl call_18 (laws_eqIntS _ _ (by omega)) rfl ?_ ?_ <;> intro h14) | (refine ASL.callRD rfl rfl rfl rfl call_18 (by exact ⟨by first | exact RA.same _ | exact RA.own (by assumption), by first | exact RA.same _ | exact RA.own (by assumption), trivial⟩) (laws_eqIntS _ _ (by omega)) ?_ ?_ <;> intro h14))
  all_goals (refine ASL.light rfl rfl (opNot rfl rfl) ?_)
  all_goals (refine ASL.done ?_)
  all_goals (first
    | (
      refine AWP.condT rfl ?_
      all_goals (refine AWP.seqR rfl ?_)
      all_goals (refine ASL.light rfl rfl (opAssign (v := .bool _) rfl rfl) ?_)
      all_goals (refine ASL.done ?_)
      all_goals (refine AWP.ret ?_)
      all_goals (repeat with_reducible refine QThen.ret1 ?_)
      all_goals (exact QRet.bool rfl rfl rfl (by first | rfl | (exfalso; first | omega | contradiction))))
    | (
      refine AWP.condF rfl ?_
      all_goals (refine AWP.skip ?_)
      all_goals (refine AWP.seqR rfl ?_)
      all_goals (refine ASL.light rfl rfl (opAssign (v := .int _ _) rfl rfl) ?_)
      all_goals (refine ASL.done ?_)
      all_goals (refine AWP.seqR rfl ?_)
      all_goals (first | (refine ASL.light rfl rfl (opMove (v := v11) rfl rfl) ?_) | (refine ASL.light rfl rfl (opMove (v := .list _ _) rfl rfl) ?_) | (refine ASL.light rfl rfl (opMove (v := .slc _ _ _ _) rfl rfl) ?_) | (refine ASL.light rfl rfl (opMove (v := .nil) rfl rfl) ?_))
      all_goals (refine ASL.light rfl rfl (opMove (v := .int _ _) rfl rfl) ?_)
      all_goals (refine ASL.callH rfl rfl rfl rfl call_21 (laws_markIntS _ _ _ _ (by assumption) (by omega)) rfl ?_; rintro _ G18 ⟨rfl, hO18, hB18⟩; try (first | (have hO11 : Own _ G18 v11 _ := hO18) | (have hO11 := Own.beside hO11 hB18 (by first | assumption | exact Apart.symm (by assumption)))))
      all_goals (refine ASL.light rfl rfl (opAssign (v := .int _ _) rfl rfl) ?_)
      all_goals (refine ASL.done ?_)
      all_goals (refine AWP.seqR rfl ?_)
      all_goals (refine ASL.light rfl rfl (opAssign (v := .int _ _) rfl rfl) ?_)
      all_goals (refine ASL.done ?_)
      all_goals (refine AWP.seqR rfl ?_)
      all_goals (first | (refine ASL.light rfl rfl (opMove (v := v11) rfl rfl) ?_) | (refine ASL.light rfl rfl (opMove (v := .list _ _) rfl rfl) ?_) | (refine ASL.light rfl rfl (opMove (v := .slc _ _ _ _) rfl rfl) ?_) | (refine ASL.light rfl rfl (opMove (v := .nil) rfl rfl) ?_))
      all_goals (refine ASL.light rfl rfl (opMove (v := .int _ _) rfl rfl) ?_)
      all_goals (first | (refine ASL.callP rfl rfl rfl rfl call_22 (laws_heldIntS _ _ (by omega)) rfl ?_; rintro _ rfl) | (refine ASL.callRP rfl rfl rfl rfl call_22 (by exact ⟨by first | exact RA.same _ | exact RA.own (by assumption), by first | exact RA.same _ | exact RA.own (by assumption), trivial⟩) (laws_heldIntS _ _ (by omega)) (by constructor) ?_))
      all_goals (refine ASL.light rfl rfl (opAssign (v := .int _ _) rfl rfl) ?_)
      all_goals (refine ASL.done ?_)
      all_goals (refine AWP.seq ?_)
      all_goals (refine AWP.seqR rfl ?_)
      all_goals (refine ASL.light rfl rfl (opMove (v := .int _ _) rfl rfl) ?_)
      all_goals (refine ASL.dec rfl rfl (opInt rfl rfl rfl rfl) ?_ ?_ <;> intro h23)
      all_goals (refine ASL.done ?_)
      all_goals (first
        | (
          refine AWP.condT rfl ?_
          all_goals (refine AWP.seqR rfl ?_)
          all_goals (refine ASL.light rfl rfl (opAssign (v := .bool _) rfl rfl) ?_)
          all_goals (refine ASL.done ?_)
          all_goals (refine AWP.ret ?_)
          all_goals (repeat with_reducible refine QThen.ret1 ?_)
          all_goals (exact QRet.bool rfl rfl rfl (by first | rfl | (exfalso; first | omega | contradiction))))
        | (
          refine AWP.condF rfl ?_
          all_goals (refine AWP.skip ?_)
          all_goals (refine AWP.seq ?_)
          all_goals (refine AWP.seqR rfl ?_)
          all_goals (refine ASL.light rfl rfl (opMove (v := .int _ _) rfl rfl) ?_)
          all_goals (refine ASL.light rfl rfl (opMove (v := .int _ _) rfl rfl) ?_)
          all_goals (refine ASL.dec rfl rfl (opInt rfl rfl rfl rfl) ?_ ?_ <;> intro h26)
          all_goals (refine ASL.done ?_)
          all_goals (first
            | (
              refine AWP.condT rfl ?_
              all_goals (refine AWP.seqR rfl ?_)
              all_goals (refine ASL.light rfl rfl (opAssign (v := .bool _) rfl rfl) ?_)
              all_goals (refine ASL.done ?_)
              all_goals (refine AWP.ret ?_)
              all_goals (repeat with_reducible refine QThen.ret1 ?_)
              all_goals (exact QRet.bool rfl rfl rfl (by first | rfl | (exfalso; first | omega | contradiction))))
            | (
              refine AWP.condF rfl ?_
              all_goals (refine AWP.skip ?_)
              all_goals (refine AWP.seqR rfl ?_)
              all_goals (refine ASL.light rfl rfl (opMove (v := .int _ _) rfl rfl) ?_)
              all_goals (refine ASL.callP rfl rfl rfl rfl call_20 (PO.list (impl_BoxOne _)) rfl ?_; rintro _ rfl)
              all_goals (first | (refine ASL.light rfl rfl (opAssign (v := v11) rfl rfl) ?_) | (refine ASL.light rfl rfl (opAssign (v := .list _ _) rfl rfl) ?_) | (refine ASL.light rfl rfl (opAssign (v := .slc _ _ _ _) rfl rfl) ?_) | (refine ASL.light rfl rfl (opAssign (v := .nil) rfl rfl) ?_))
              all_goals (refine ASL.done ?_)
              all_goals (refine AWP.seq ?_)
              all_goals (refine AWP.seqR rfl ?_)
              all_goals (first | (refine ASL.light rfl rfl (opMove (v := v11) rfl rfl) ?_) | (refine ASL.light rfl rfl (opMove (v := .list _ _) rfl rfl) ?_) | (refine ASL.light rfl rfl (opMove (v := .slc _ _ _ _) rfl rfl) ?_) | (refine ASL.light rfl rfl (opMove (v := .nil) rfl rfl) ?_))
              all_goals (first | (refine ASL.light rfl rfl (opMove (v := v11) rfl rfl) ?_) | (refine ASL.light rfl rfl (opMove (v := .list _ _) rfl rfl) ?_) | (refine ASL.light rfl rfl (opMove (v := .slc _ _ _ _) rfl rfl) ?_) | (refine ASL.light rfl rfl (opMove (v := .nil) rfl rfl) ?_))
              all_goals (first | (refine ASL.callD rfl rfl rfl rfl call_18 (laws_eqIntS _ _ (by omega)) rfl ?_ ?_ <;> intro h31) | (refine ASL.callRD rfl rfl rfl rfl call_18 (by exact ⟨by first | exact RA.same _ | exact RA.own (by assumption), by first | exact RA.same _ | exact RA.own (by assumption), trivial⟩) (laws_eqIntS _ _ (by omega)) ?_ ?_ <;> intro h31))
              all_goals (refine ASL.light rfl rfl (opNot rfl rfl) ?_)
              all_goals (refine ASL.done ?_)
              all_goals (first
                | (
                  refine AWP.condT rfl ?_
                  all_goals (refine AWP.seqR rfl ?_)
                  all_goals (refine ASL.light rfl rfl (opAssign (v := .bool _) rfl rfl) ?_)
                  all_goals (refine ASL.done ?_)
                  all_goals (refine AWP.ret ?_)
                  all_goals (repeat with_reducible refine QThen.ret1 ?_)
                  all_goals (exact QRet.bool rfl rfl rfl (by first | rfl | (exfalso; first | omega | contradiction))))
                | (
                  refine AWP.condF rfl ?_
                  all_goals (refine AWP.skip ?_)
                  all_goals (refine AWP.seqR rfl ?_)
                  all_goals (refine ASL.light rfl rfl (opAssign (v := .int _ _) rfl rfl) ?_)
                  all_goals (refine ASL.done ?_)
                  all_goals (refine AWP.seqR rfl ?_)
                  all_goals (first | (refine ASL.light rfl rfl (opMove (v := v11) rfl rfl) ?_) | (refine ASL.light rfl rfl (opMove (v := .list _ _) rfl rfl) ?_) | (refine ASL.light rfl rfl (opMove (v := .slc _ _ _ _) rfl rfl) ?_) | (refine ASL.light rfl rfl (opMove (v := .nil) rfl rfl) ?_))
                  all_goals (refine ASL.light rfl rfl (opMove (v := .int _ _) rfl rfl) ?_)
                  all_goals (first | (refine ASL.callP rfl rfl rfl rfl call_22 (laws_heldIntS _ _ (by omega)) rfl ?_; rintro _ rfl) | (refine ASL.callRP rfl rfl rfl rfl call_22 (by exact ⟨by first | exact RA.same _ | exact RA.own (by assumption), by first | exact RA.same _ | exact RA.own (by assumption), trivial⟩) (laws_heldIntS _ _ (by omega)) (by constructor) ?_))
                  all_goals (refine ASL.light rfl rfl (opAssign (v := .int _ _) rfl rfl) ?_)
                  all_goals (refine ASL.done ?_)
                  all_goals (refine AWP.seq ?_)
                  all_goals (refine AWP.seqR rfl ?_)
                  all_goals (refine ASL.light rfl rfl (opMove (v := .int _ _) rfl rfl) ?_)
                  all_goals (refine ASL.dec rfl rfl (opInt rfl rfl rfl rfl) ?_ ?_ <;> intro h37)
                  all_goals (refine ASL.done ?_)
                  all_goals (first
                    | (
                      refine AWP.condT rfl ?_
                      all_goals (refine AWP.seqR rfl ?_)
                      all_goals (refine ASL.light rfl rfl (opAssign (v := .bool _) rfl rfl) ?_)
                      all_goals (refine ASL.done ?_)
                      all_goals (refine AWP.ret ?_)
                      all_goals (repeat with_reducible refine QThen.ret1 ?_)
                      all_goals (exact QRet.bool rfl rfl rfl (by first | rfl | (exfalso; first | omega | contradiction))))
                    | (
                      refine AWP.condF rfl ?_
                      all_goals (refine AWP.skip ?_)
                      all_goals (refine AWP.seq ?_)
                      all_goals (refine AWP.seqR rfl ?_)
                      all_goals (refine ASL.light rfl rfl (opMove (v := .int _ _) rfl rfl) ?_)
                      all_goals (refine ASL.light rfl rfl (opMove (v := .int _ _) rfl rfl) ?_)
                      all_goals (refine ASL.dec rfl rfl (opInt rfl rfl rfl rfl) ?_ ?_ <;> intro h40)
                      all_goals (refine ASL.done ?_)
                      all_goals (first
                        | (
                          refine AWP.condT rfl ?_
                          all_goals (refine AWP.seqR rfl ?_)
                          all_goals (refine ASL.light rfl rfl (opAssign (v := .bool _) rfl rfl) ?_)
                          all_goals (refine ASL.done ?_)
                          all_goals (refine AWP.ret ?_)
                          all_goals (repeat with_reducible refine QThen.ret1 ?_)
                          all_goals (exact QRet.bool rfl rfl rfl (by first | rfl | (exfalso; first | omega | contradiction))))
                        | (
                          refine AWP.condF rfl ?_
                          all_goals (refine AWP.skip ?_)
                          all_goals (refine AWP.seqR rfl ?_)
                          all_goals (refine ASL.light rfl rfl (opAssign (v := .bool _) rfl rfl) ?_)
                          all_goals (refine ASL.done ?_)
                          all_goals (refine AWP.ret ?_)
                          all_goals (repeat with_reducible refine QThen.ret1 ?_)
                          all_goals (exact QRet.bool rfl rfl rfl (by first | rfl | (exfalso; first | omega | contradiction)))))))))))))))

end Go.Proofs.Ytcmlckgdhnffmaa
