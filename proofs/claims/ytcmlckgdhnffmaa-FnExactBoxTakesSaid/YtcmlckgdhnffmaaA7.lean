/- The contracts of some of the program's functions: A7. -/
import Derived.Test.YtcmlckgdhnffmaaA6
import Derived.Test.YtcmlckgdhnffmaaE13
import Derived.Test.YtcmlckgdhnffmaaProg
namespace Go.Proofs.Ytcmlckgdhnffmaa
open Go Go.RowKit E
set_option linter.unusedVariables false

theorem edge_ix {n p q : Int} (h : 1 ≤ n ∧ n ≤ 4) (hp : 0 ≤ p ∧ p ≤ n - 1) (hq : 0 ≤ q ∧ q ≤ n - 1) : 0 ≤ p * n ∧ p * n ≤ 16 ∧ 0 ≤ p * n + q ∧ p * n + q < n * n := by
  have : n = 1 ∨ n = 2 ∨ n = 3 ∨ n = 4 := by omega
  rcases this with rfl | rfl | rfl | rfl <;> omega
theorem nn4 {n : Int} (h : 1 ≤ n ∧ n ≤ 4) : 1 ≤ n * n ∧ n * n ≤ 16 := sq4 h
def boxStep (n x : Int) (zs : List Int) (e : EdgeD) : List Int := if e.l = x then zs.set (e.p * n + e.q).toNat (if e.g = true then 2 else 1) else zs
def letL (a : AutoD) (x : Int) (i : Nat) : List Int := (a.es.take i).foldl (boxStep a.n x) (List.replicate (a.n * a.n).toNat 0)
def boxLetterL (a : AutoD) (x : Int) : List Int := letL a x a.es.length
theorem boxStep_len (n x : Int) (zs : List Int) (e : EdgeD) : (boxStep n x zs e).length = zs.length := by unfold boxStep; split <;> simp
theorem foldl_len (n x : Int) : ∀ (es : List EdgeD) (zs : List Int), (es.foldl (boxStep n x) zs).length = zs.length
  | [], zs => rfl
  | e :: es, zs => by rw [List.foldl_cons, foldl_len n x es, boxStep_len]
theorem letL_len (a : AutoD) (x : Int) (i : Nat) : (letL a x i).length = (a.n * a.n).toNat := by unfold letL; rw [foldl_len]; simp
theorem letL_0 (a : AutoD) (x : Int) : letL a x 0 = List.replicate (a.n * a.n).toNat 0 := rfl
theorem letL_next {a : AutoD} {x : Int} {i : Nat} (h : i < a.es.length) : letL a x (i + 1) = boxStep a.n x (letL a x i) (a.es.getD i default) := by
  unfold letL
  rw [List.take_succ_eq_append_getElem h, List.foldl_append]; simp [h]
theorem letL_skip {a : AutoD} {x : Int} {i : Nat} (h : i < a.es.length) (k : ¬ (a.es.getD i default).l = x) : letL a x i = letL a x (i + 1) := by
  rw [letL_next h, boxStep, if_neg k]
theorem letL_bad {a : AutoD} {x : Int} {i : Nat} (h : i < a.es.length) (k : (a.es.getD i default).l = x) (g : (a.es.getD i default).g = false) : (letL a x i).set ((a.es.getD i default).p * a.n + (a.es.getD i default).q).toNat 1 = letL a x (i + 1) := by
  rw [letL_next h, boxStep, if_pos k, if_neg (by rw [g]; simp)]
theorem letL_good {a : AutoD} {x : Int} {i : Nat} (h : i < a.es.length) (k : (a.es.getD i default).l = x) (g : (a.es.getD i default).g = true) : ((letL a x i).set ((a.es.getD i default).p * a.n + (a.es.getD i default).q).toNat 1).set ((a.es.getD i default).p * a.n + (a.es.getD i default).q).toNat 2 = letL a x (i + 1) := by
  rw [letL_next h, boxStep, if_pos k, if_pos g, List.set_set]
def posL (zs : List Int) : Prop := ∀ i, 0 ≤ zs.getD i 0
theorem posL_set {zs : List Int} (h : posL zs) (k : Nat) {v : Int} (hv : 0 ≤ v) : posL (zs.set k v) := by
  intro i
  by_cases hi : i < zs.length
  · by_cases e : k = i
    · subst e; simp [hi, hv]
    · have := h i
      simpa [List.getD, List.getElem?_set_ne e] using this
  · simp [List.getD, List.getElem?_eq_none (by simp; omega : (zs.set k v).length ≤ i)]
theorem posL_fold (n x : Int) : ∀ (es : List EdgeD) (zs : List Int), posL zs → posL (es.foldl (boxStep n x) zs)
  | [], zs, h => h
  | e :: es, zs, h => posL_fold n x es _ (by unfold boxStep; split; exact posL_set h _ (by split <;> omega); exact h)
theorem posL_rep (n : Nat) : posL (List.replicate n 0) := by
  intro i; by_cases h : i < n <;> simp [List.getD, List.getElem?_replicate, h]
theorem letter_pos (a : AutoD) (x : Int) : posL (boxLetterL a x) := posL_fold _ _ _ _ (posL_rep _)
theorem letter_len (a : AutoD) (x : Int) : (boxLetterL a x).length = (a.n * a.n).toNat := letL_len _ _ _
theorem mulC_pos (x y : List Int) (m p q : Nat) : ∀ r, 0 ≤ mulC x y m p q r
  | 0 => Int.le_refl _
  | r + 1 => by
    have := mulC_pos x y m p q r
    rw [mulC]; split
    · exact Int.le_trans this (Int.le_max_left _ _)
    · exact this
theorem mul_pos' (m : Nat) (x y : List Int) : posL (boxMulL m x y) := by
  intro i; unfold boxMulL
  by_cases h : i < m * m
  · simp [h]; exact mulC_pos _ _ _ _ _ _
  · simp [List.getD, h]
theorem mul_len' {n : Int} (h : 1 ≤ n ∧ n ≤ 4) (x y : List Int) : (boxMulL n.toNat x y).length = (n * n).toNat := by
  obtain ⟨m, rfl, hm⟩ := one4 h
  rw [boxMulL_len]; simp [← Int.natCast_mul]
theorem one_pos (n : Int) : posL (boxOneL n) := by
  intro i
  by_cases h : 1 ≤ n ∧ n ≤ 4
  · obtain ⟨m, rfl, hm⟩ := one4 h
    rw [boxOneL_yes m hm]; unfold oneL
    by_cases hi : i < m * m
    · simp [hi]; split <;> omega
    · simp [List.getD, hi]
  · rw [boxOneL_no h]; simp
theorem one_len {n : Int} (h : 1 ≤ n ∧ n ≤ 4) : (boxOneL n).length = (n * n).toNat := by
  obtain ⟨m, rfl, hm⟩ := one4 h
  rw [boxOneL_yes m hm, oneL_len]; simp [← Int.natCast_mul]
def boxAcc (a : AutoD) (w : List Int) (i : Nat) : List Int := (w.take i).foldl (fun z x => boxMulL a.n.toNat z (boxLetterL a x)) (boxOneL a.n)
theorem boxAcc_next {a : AutoD} {w : List Int} {i : Nat} (h : i < w.length) : boxMulL a.n.toNat (boxAcc a w i) (boxLetterL a (w.getD i 0)) = boxAcc a w (i + 1) := by
  unfold boxAcc
  rw [List.take_succ_eq_append_getElem h, List.foldl_append]; simp [h]
theorem boxAcc_ok {a : AutoD} (w : List Int) (hn : 1 ≤ a.n ∧ a.n ≤ 4) : ∀ i, (boxAcc a w i).length = (a.n * a.n).toNat ∧ posL (boxAcc a w i)
  | 0 => ⟨one_len hn, one_pos _⟩
  | i + 1 => by
    by_cases h : i < w.length
    · rw [← boxAcc_next h]; exact ⟨mul_len' hn _ _, mul_pos' _ _ _⟩
    · have := boxAcc_ok w hn i
      unfold boxAcc at this ⊢
      rw [List.take_of_length_le (by omega)] at this ⊢; exact this
def lettersB (xs : List Int) (l : Int) : Bool := xs.all fun x => decide (0 ≤ x ∧ x ≤ l - 1)
theorem lettersB_no {xs : List Int} {l : Int} {i : Nat} (hi : i < xs.length) (h : ¬ (0 ≤ xs.getD i 0 ∧ xs.getD i 0 ≤ l - 1)) : false = lettersB xs l := by
  symm; rw [← Bool.not_eq_true]; unfold lettersB; rw [all_getD]; intro k; exact h (by simpa using k i hi)
theorem lettersB_yes {xs : List Int} {l : Int} (h : ∀ j, j < xs.length → 0 ≤ xs.getD j 0 ∧ xs.getD j 0 ≤ l - 1) : true = lettersB xs l := by
  symm; unfold lettersB; rw [all_getD]; intro j hj; simpa using h j hj
abbrev boxOfP (a : AutoD) (w : List Int) : Prop := (autoOk a = true ∧ 1 ≤ a.n ∧ a.n ≤ 4) ∧ w.length ≤ 60 ∧ lettersB w a.l = true
def boxOfF (a : AutoD) (w : List Int) : List Int := if boxOfP a w then boxAcc a w w.length else []
theorem boxOfF_no {a : AutoD} {w : List Int} (h : ¬ boxOfP a w) : boxOfF a w = [] := by unfold boxOfF; rw [if_neg h]
theorem boxOfF_yes {a : AutoD} {w : List Int} (h : boxOfP a w) : boxOfF a w = boxAcc a w w.length := by unfold boxOfF; rw [if_pos h]
theorem boxOfF_len (a : AutoD) (w : List Int) : (boxOfF a w).length ≤ 16 := by
  by_cases h : boxOfP a w
  · rw [boxOfF_yes h, (boxAcc_ok w h.1.2 _).1]; have := nn4 h.1.2; omega
  · rw [boxOfF_no h]; simp
theorem spec_mulI (n : Int) (x y : List Int) (hn : 1 ≤ n ∧ n ≤ 4) (hx : x.length = (n * n).toNat) (hy : y.length = (n * n).toNat) : PO Try.prog 67 [.int .i64 n, ints x, ints y] 1 ((boxMulL n.toNat x y).map (AV.int .i64)) := by
  obtain ⟨m, rfl, hm⟩ := one4 hn
  rw [← Int.natCast_mul, Int.toNat_natCast] at hx hy
  exact spec_l14Mul m x y hm hx hy
theorem impl_mulI (n : Int) (x y : List Int) (hn : 1 ≤ n ∧ n ≤ 4) (hx : x.length = (n * n).toNat) (hy : y.length = (n * n).toNat) (px : posL x) (py : posL y) : PO Try.prog 68 [.int .i64 n, ints x, ints y] 1 ((boxMulL n.toNat x y).map (AV.int .i64)) := by
  obtain ⟨m, rfl, hm⟩ := one4 hn
  rw [← Int.natCast_mul, Int.toNat_natCast] at hx hy
  exact impl_boxMul m x y hm hx hy px py
theorem impl_oneI (n : Int) (hn : 1 ≤ n ∧ n ≤ 4) : PO Try.prog 66 [.int .i64 n] 1 ((boxOneL n).map (AV.int .i64)) := by
  obtain ⟨m, rfl, hm⟩ := one4 hn
  rw [boxOneL_yes m hm]; exact impl_boxOne m hm

theorem RA.autoA {H : Heap} {v : AV} {a : AutoD} (h : Own 4 H v (a.es.map edgeA)) : RA H (.agg [.int .i64 a.l, .int .i64 a.n, .int .i64 a.s, v]) (Go.Proofs.Ytcmlckgdhnffmaa.autoA a) := by
  refine RA.agg rfl fun j h1 h2 => ?_
  rcases j with _ | _ | _ | _ | j
  · exact RA.same _
  · exact RA.same _
  · exact RA.same _
  · exact RA.own h
  · exact absurd h1 (by simp)

def setP (k : Int) (e : EdgeD) : EdgeD := { e with p := k }
def setLt (k : Int) (e : EdgeD) : EdgeD := { e with l := k }
def setQ (k : Int) (e : EdgeD) : EdgeD := { e with q := k }
def setG (k : Bool) (e : EdgeD) : EdgeD := { e with g := k }

theorem call_91 : callable Try.prog 91 = true := by kernel_rfl
theorem call_74 : callable Try.prog 74 = true := by kernel_rfl
theorem call_92 : callable Try.prog 92 = true := by kernel_rfl
theorem call_77 : callable Try.prog 77 = true := by kernel_rfl
theorem call_78 : callable Try.prog 78 = true := by kernel_rfl
theorem call_93 : callable Try.prog 93 = true := by kernel_rfl
theorem call_30 : callable Try.prog 30 = true := by kernel_rfl
theorem call_46 : callable Try.prog 46 = true := by kernel_rfl
theorem call_45 : callable Try.prog 45 = true := by kernel_rfl
set_option maxRecDepth 10000 in
theorem spec_l14Right (a : AutoD) (hl : a.es.length ≤ 1048576) : PC Try.prog 91 [autoA a] (fun v => v = .bool (decide (autoOk a = true ∧ 1 ≤ a.n ∧ a.n ≤ 4))) := by
  refine PC.enter Try.func91 rfl Try.ntmps91 (by simp) ?_
  all_goals (refine AWP.seqR rfl ?_)
  all_goals (refine ASL.boxI rfl rfl rfl rfl rfl ?_)
  all_goals (refine ASL.light rfl rfl (opAssign (v := .bool _) rfl rfl) ?_)
  all_goals (refine ASL.done ?_)
  all_goals (refine AWP.seqR rfl ?_)
  all_goals (refine ASL.light rfl rfl (opLoadRA rfl aggA_35 sizeA_35 rfl (by first | exact Nat.le_of_ble_eq_true rfl | (simp; done)) rfl) ?_)
  all_goals (refine ASL.callB rfl rfl rfl rfl call_27 (spec_AutoOk _ (by omega)) rfl ?_ ?_ <;> intro h4)
  all_goals (refine ASL.light rfl rfl (opMove (v := .bool _) rfl rfl) ?_)
  all_goals (first | (refine ASL.off rfl rfl ?_) | (refine ASL.light rfl rfl (opFieldAddrR rfl fieldA_35_1 rfl rfl) ?_) | (refine ASL.light rfl rfl (opFieldAddr rfl fieldA_35_1 rfl rfl) ?_))
  all_goals (first | (refine ASL.off rfl rfl ?_) | (refine ASL.light rfl rfl (opLoadR (v := .int _ _) rfl aggA_3 rfl rfl) ?_) | (refine ASL.light rfl rfl (opLoadOwnI rfl aggA_3 rfl (by assumption) (by first | omega | (simp; omega))) ?_))
  all_goals (first | (refine ASL.off rfl rfl ?_) | (refine ASL.callD rfl rfl rfl rfl call_63 (spec_l1In _ _ _) rfl ?_ ?_ <;> intro h8))
  all_goals (refine ASL.light rfl rfl (opPick (v := .bool _) rfl rfl rfl) ?_)
  all_goals (refine ASL.light rfl rfl (opAssign (v := .bool _) rfl rfl) ?_)
  all_goals (refine ASL.done ?_)
  all_goals (refine AWP.ret ?_)
  all_goals (repeat with_reducible refine QThen.ret1 ?_)
  all_goals (exact QRet.bool rfl rfl rfl (by symm; first | (apply decide_eq_true; exact ⟨by assumption, by assumption⟩) | (apply decide_eq_false; rintro ⟨k, k2⟩; first | contradiction | (simp_all; done)) | (rw [decide_eq_decide]; constructor; exact fun k => k.2; exact fun k => ⟨by assumption, k⟩)))

set_option maxRecDepth 10000 in
theorem spec_l3Letters (xs : List Int) (l : Int) (hx : xs.length ≤ 1048576) (hl : 0 ≤ l ∧ l ≤ 1000) : PC Try.prog 74 [ints xs, .int .i64 l] (fun v => v = .bool (lettersB xs l)) := by
  refine PC.enter Try.func74 rfl Try.ntmps74 (by simp) ?_
  all_goals (refine AWP.seqR rfl ?_)
  all_goals (refine ASL.light rfl rfl (opAssign (v := .bool _) rfl rfl) ?_)
  all_goals (refine ASL.done ?_)
  all_goals (refine AWP.seq ?_)
  all_goals (refine AWP.seqR rfl ?_)
  all_goals (refine ASL.light rfl rfl (opAssign (v := .int _ _) rfl rfl) ?_)
  all_goals (refine ASL.done ?_)
  all_goals (refine AWP.block ?_)
  all_goals (refine AWP.loopL (α := Nat) (fun i => [(0, ints xs), (1, .int .i64 l), (5, .int .i64 i)]) (fun i G => G = fun _ => none) (fun i => xs.length - i) (fun i => i ≤ xs.length ∧ ∀ j, j < i → 0 ≤ xs.getD j 0 ∧ xs.getD j 0 ≤ l - 1) 0 ⟨by omega, fun j hj => by omega⟩ ⟨rfl, rfl, rfl, trivial⟩ rfl ?_)
  rintro i G0 hI0 rfl
  all_goals (refine AWP.seq ?_)
  all_goals (refine AWP.seqR rfl ?_)
  all_goals (refine ASL.light rfl rfl (opMove (v := .int _ _) rfl rfl) ?_)
  all_goals (first | (refine ASL.light rfl rfl (opMove (v := .list _ _) rfl rfl) ?_) | (refine ASL.light rfl rfl (opMove (v := .slc _ _ _ _) rfl rfl) ?_) | (refine ASL.light rfl rfl (opMove (v := .nil) rfl rfl) ?_))
  all_goals (first | (refine ASL.light rfl rfl (opLenMap rfl rfl rfl lenT_22 rfl) ?_) | (refine ASL.light rfl rfl (opLenOf rfl rfl rfl lenT_22 rfl rfl) ?_))
  all_goals (refine ASL.dec rfl rfl (opInt rfl rfl rfl rfl) ?_ ?_ <;> intro h9)
  all_goals (refine ASL.done ?_)
  all_goals (first
    | (
      refine AWP.condF rfl ?_
      all_goals (refine AWP.exit ?_))
    | (
      refine AWP.condT rfl ?_
      all_goals (refine AWP.skip ?_)
      all_goals (refine AWP.seq ?_)
      all_goals (refine AWP.block ?_)
      all_goals (refine AWP.seqR rfl ?_)
      all_goals (first | (refine ASL.light rfl rfl (opMove (v := .list _ _) rfl rfl) ?_) | (refine ASL.light rfl rfl (opMove (v := .slc _ _ _ _) rfl rfl) ?_) | (refine ASL.light rfl rfl (opMove (v := .nil) rfl rfl) ?_))
      all_goals (refine ASL.light rfl rfl (opMove (v := .int _ _) rfl rfl) ?_)
      all_goals (first | (refine ASL.light rfl rfl (opIndexIN rfl rfl rfl elemA_22 sizeA_3 (by omega)) ?_) | (refine ASL.light rfl rfl (opIndexI rfl rfl rfl elemA_22 sizeA_3 (by omega) (by omega)) ?_) | (refine ASL.light rfl rfl (opIndexN rfl rfl rfl elemA_22 sizeA_3 (by omega) rfl) ?_) | (refine ASL.light rfl rfl (opIndexMap rfl rfl rfl elemA_22 sizeA_3 (by omega) (by omega) rfl) ?_) | (refine ASL.light rfl rfl (opIndexAddrN rfl rfl rfl elemA_22 sizeA_3 (by omega)) ?_) | (refine ASL.light rfl rfl (opIndexAddr rfl rfl rfl elemA_22 sizeA_3 (by omega) (by omega) rfl) ?_))
      all_goals (first | (refine ASL.light rfl rfl (opLoadR (v := .int _ _) rfl aggA_3 rfl rfl) ?_) | (refine ASL.light rfl rfl (opLoadOwnI rfl aggA_3 rfl (by assumption) (by first | omega | (simp; omega))) ?_))
      all_goals (refine ASL.light rfl rfl (opMove (v := .int _ _) rfl rfl) ?_)
      all_goals (first | (refine ASL.light rfl rfl (opSub rfl rfl rfl (by omega)) ?_) | (refine ASL.light rfl rfl (opInt rfl rfl rfl rfl) ?_))
      all_goals (refine ASL.callD rfl rfl rfl rfl call_63 (spec_l1In _ _ _) rfl ?_ ?_ <;> intro h18)
      all_goals (refine ASL.light rfl rfl (opNot rfl rfl) ?_)
      all_goals (refine ASL.done ?_)
      all_goals (first
        | (
          refine AWP.condT rfl ?_
          all_goals (refine AWP.seqR rfl ?_)
          all_goals (refine ASL.light rfl rfl (opAssign (v := .bool _) rfl rfl) ?_)
          all_goals (refine ASL.done ?_)
          all_goals (refine AWP.ret ?_)
          all_goals (repeat with_reducible refine QThen.ret1 ?_)
          all_goals (exact QRet.bool rfl rfl rfl (by first | exact lettersB_no (i := i) (by omega) (by assumption) | exact lettersB_yes (fun j hj => hI0.2 j (by omega)))))
        | (
          refine AWP.condF rfl ?_
          all_goals (refine AWP.skip ?_)))
      all_goals (refine AWP.lastR rfl ?_)
      all_goals (refine ASL.light rfl rfl (opMove (v := .int _ _) rfl rfl) ?_)
      all_goals (first | (refine ASL.light rfl rfl (opAdd rfl rfl rfl (by omega)) ?_) | (refine ASL.light rfl rfl (opInt rfl rfl rfl rfl) ?_))
      all_goals (refine ASL.light rfl rfl (opAssign (v := .int _ _) rfl rfl) ?_)
      all_goals (refine ASL.done ?_)
      all_goals (exact ⟨i + 1, ⟨by omega, upTo_next hI0.2 (by assumption)⟩, by omega, ⟨rfl, rfl, rfl, trivial⟩, rfl⟩)))
  all_goals (refine AWP.seqR rfl ?_)
  all_goals (refine ASL.light rfl rfl (opAssign (v := .bool _) rfl rfl) ?_)
  all_goals (refine ASL.done ?_)
  all_goals (refine AWP.ret ?_)
  all_goals (repeat with_reducible refine QThen.ret1 ?_)
  all_goals (exact QRet.bool rfl rfl rfl (by first | exact lettersB_no (i := i) (by omega) (by assumption) | exact lettersB_yes (fun j hj => hI0.2 j (by omega))))

set_option maxRecDepth 10000 in
theorem impl_areLetters (xs : List Int) (l : Int) (hx : xs.length ≤ 1048576) (hl : 0 ≤ l ∧ l ≤ 1000) : PC Try.prog 77 [ints xs, .int .i64 l] (fun v => v = .bool (lettersB xs l)) := by
  refine PC.enter Try.func77 rfl Try.ntmps77 (by simp) ?_
  all_goals (refine AWP.seqR rfl ?_)
  all_goals (refine ASL.light rfl rfl (opAssign (v := .bool _) rfl rfl) ?_)
  all_goals (refine ASL.done ?_)
  all_goals (refine AWP.seq ?_)
  all_goals (refine AWP.seqR rfl ?_)
  all_goals (first | (refine ASL.light rfl rfl (opMove (v := .list _ _) rfl rfl) ?_) | (refine ASL.light rfl rfl (opMove (v := .slc _ _ _ _) rfl rfl) ?_) | (refine ASL.light rfl rfl (opMove (v := .nil) rfl rfl) ?_))
  all_goals (first | (refine ASL.light rfl rfl (opLenMap rfl rfl rfl lenT_22 rfl) ?_) | (refine ASL.light rfl rfl (opLenOf rfl rfl rfl lenT_22 rfl rfl) ?_))
  all_goals (refine ASL.light rfl rfl (opMove (v := .int _ _) rfl rfl) ?_)
  all_goals (refine ASL.done ?_)
  all_goals (refine AWP.block ?_)
  all_goals (refine AWP.loopL (α := Nat) (fun i => [(1, .int .i64 l), (7, ints xs), (8, .int .i64 xs.length), (9, .int .i64 i)]) (fun i G => G = fun _ => none) (fun i => xs.length - i) (fun i => i ≤ xs.length ∧ ∀ j, j < i → 0 ≤ xs.getD j 0 ∧ xs.getD j 0 ≤ l - 1) 0 ⟨by omega, fun j hj => by omega⟩ ⟨rfl, rfl, rfl, rfl, trivial⟩ rfl ?_)
  rintro i G0 hI0 rfl
  all_goals (refine AWP.seqR rfl ?_)
  all_goals (refine ASL.dec rfl rfl (opInt rfl rfl rfl rfl) ?_ ?_ <;> intro h10)
  all_goals (refine ASL.done ?_)
  all_goals (refine AWP.seq ?_)
  all_goals (first
    | (
      refine AWP.condF rfl ?_
      all_goals (refine AWP.exit ?_))
    | (
      refine AWP.condT rfl ?_
      all_goals (refine AWP.skip ?_)
      all_goals (refine AWP.seq ?_)
      all_goals (refine AWP.block ?_)
      all_goals (refine AWP.seqR rfl ?_)
      all_goals (first | (refine ASL.light rfl rfl (opIndexIN rfl rfl rfl elemA_22 sizeA_3 (by omega)) ?_) | (refine ASL.light rfl rfl (opIndexI rfl rfl rfl elemA_22 sizeA_3 (by omega) (by omega)) ?_) | (refine ASL.light rfl rfl (opIndexN rfl rfl rfl elemA_22 sizeA_3 (by omega) rfl) ?_) | (refine ASL.light rfl rfl (opIndexMap rfl rfl rfl elemA_22 sizeA_3 (by omega) (by omega) rfl) ?_) | (refine ASL.light rfl rfl (opIndexAddrN rfl rfl rfl elemA_22 sizeA_3 (by omega)) ?_) | (refine ASL.light rfl rfl (opIndexAddr rfl rfl rfl elemA_22 sizeA_3 (by omega) (by omega) rfl) ?_))
      all_goals (first | (refine ASL.light rfl rfl (opLoadR (v := .int _ _) rfl aggA_3 rfl rfl) ?_) | (refine ASL.light rfl rfl (opLoadOwnI rfl aggA_3 rfl (by assumption) (by first | omega | (simp; omega))) ?_))
      all_goals (refine ASL.light rfl rfl (opAssign (v := .int _ _) rfl rfl) ?_)
      all_goals (refine ASL.done ?_)
      all_goals (refine AWP.seqR rfl ?_)
      all_goals (refine ASL.light rfl rfl (opMove (v := .int _ _) rfl rfl) ?_)
      all_goals (refine ASL.light rfl rfl (opMove (v := .int _ _) rfl rfl) ?_)
      all_goals (first | (refine ASL.light rfl rfl (opSub rfl rfl rfl (by omega)) ?_) | (refine ASL.light rfl rfl (opInt rfl rfl rfl rfl) ?_))
      all_goals (refine ASL.callD rfl rfl rfl rfl call_65 (impl_inRange _ _ _) rfl ?_ ?_ <;> intro h16)
      all_goals (refine ASL.light rfl rfl (opNot rfl rfl) ?_)
      all_goals (refine ASL.done ?_)
      all_goals (first
        | (
          refine AWP.condT rfl ?_
          all_goals (refine AWP.seqR rfl ?_)
          all_goals (refine ASL.light rfl rfl (opAssign (v := .bool _) rfl rfl) ?_)
          all_goals (refine ASL.done ?_)
          all_goals (refine AWP.ret ?_)
          all_goals (repeat with_reducible refine QThen.ret1 ?_)
          all_goals (exact QRet.bool rfl rfl rfl (by first | exact lettersB_no (i := i) (by omega) (by assumption) | exact lettersB_yes (fun j hj => hI0.2 j (by omega)))))
        | (
          refine AWP.condF rfl ?_
          all_goals (refine AWP.skip ?_)))
      all_goals (refine AWP.lastR rfl ?_)
      all_goals (first | (refine ASL.light rfl rfl (opAdd rfl rfl rfl (by omega)) ?_) | (refine ASL.light rfl rfl (opInt rfl rfl rfl rfl) ?_))
      all_goals (refine ASL.light rfl rfl (opMove (v := .int _ _) rfl rfl) ?_)
      all_goals (refine ASL.done ?_)
      all_goals (exact ⟨i + 1, ⟨by omega, upTo_next hI0.2 (by assumption)⟩, by omega, ⟨rfl, rfl, rfl, rfl, trivial⟩, rfl⟩)))
  all_goals (refine AWP.seqR rfl ?_)
  all_goals (refine ASL.light rfl rfl (opAssign (v := .bool _) rfl rfl) ?_)
  all_goals (refine ASL.done ?_)
  all_goals (refine AWP.ret ?_)
  all_goals (repeat with_reducible refine QThen.ret1 ?_)
  all_goals (exact QRet.bool rfl rfl rfl (by first | exact lettersB_no (i := i) (by omega) (by assumption) | exact lettersB_yes (fun j hj => hI0.2 j (by omega))))

set_option maxRecDepth 10000 in
theorem spec_l14Letter (a : AutoD) (x : Int) (hk : autoOk a = true ∧ 1 ≤ a.n ∧ a.n ≤ 4) (hl : a.es.length ≤ 1048576) : PO Try.prog 92 [autoA a, .int .i64 x] 1 ((boxLetterL a x).map (AV.int .i64)) := by
  refine HC.enter Try.func92 rfl Try.ntmps92 (by simp) ?_
  have hnn := nn4 hk.2
  all_goals (refine AWP.seqR rfl ?_)
  all_goals (refine ASL.boxI rfl rfl rfl rfl rfl ?_)
  all_goals (first | (refine ASL.light rfl rfl (opAssign (v := .list _ _) rfl rfl) ?_) | (refine ASL.light rfl rfl (opAssign (v := .slc _ _ _ _) rfl rfl) ?_) | (refine ASL.light rfl rfl (opAssign (v := .nil) rfl rfl) ?_))
  all_goals (refine ASL.done ?_)
  all_goals (refine AWP.seqR rfl ?_)
  all_goals (first | (refine ASL.light rfl rfl (opFieldAddrR rfl fieldA_35_1 rfl rfl) ?_) | (refine ASL.light rfl rfl (opFieldAddr rfl fieldA_35_1 rfl rfl) ?_))
  all_goals (first | (refine ASL.light rfl rfl (opLoadR (v := .int _ _) rfl aggA_3 rfl rfl) ?_) | (refine ASL.light rfl rfl (opLoadOwnI rfl aggA_3 rfl (by assumption) (by first | first | omega | (rw [List.length_set]; omega) | (simp; omega) | (simp; first | omega | (rw [List.length_set]; omega) | (simp; omega)))) ?_))
  all_goals (first | (refine ASL.light rfl rfl (opFieldAddrR rfl fieldA_35_1 rfl rfl) ?_) | (refine ASL.light rfl rfl (opFieldAddr rfl fieldA_35_1 rfl rfl) ?_))
  all_goals (first | (refine ASL.light rfl rfl (opLoadR (v := .int _ _) rfl aggA_3 rfl rfl) ?_) | (refine ASL.light rfl rfl (opLoadOwnI rfl aggA_3 rfl (by assumption) (by first | first | omega | (rw [List.length_set]; omega) | (simp; omega) | (simp; first | omega | (rw [List.length_set]; omega) | (simp; omega)))) ?_))
  all_goals (first | (refine ASL.light rfl rfl (opMul rfl rfl rfl (by first | omega | (rw [List.length_set]; omega) | (simp; omega))) ?_) | (refine ASL.light rfl rfl (opInt rfl rfl rfl rfl) ?_))
  all_goals (refine ASL.heavy1 rfl rfl (opMakeM (f := AV.int .i64) (z0 := 0) rfl elemA_22 sizeA_3 bytesA_3 zeroA_3 rfl rfl (by decide) rfl rfl (by omega) (by omega) (by omega) ?_); rintro b13 c13 G13 hO13 hK13 hN13)
  all_goals (first | (refine ASL.light rfl rfl (opAssign (v := .list _ _) rfl rfl) ?_) | (refine ASL.light rfl rfl (opAssign (v := .slc _ _ _ _) rfl rfl) ?_) | (refine ASL.light rfl rfl (opAssign (v := .nil) rfl rfl) ?_))
  all_goals (refine ASL.done ?_)
  all_goals (refine AWP.seq ?_)
  all_goals (refine AWP.seqR rfl ?_)
  all_goals (refine ASL.light rfl rfl (opAssign (v := .int _ _) rfl rfl) ?_)
  all_goals (refine ASL.done ?_)
  all_goals (refine AWP.block ?_)
  all_goals (refine AWP.loopL (α := Nat) (fun i => [(2, .rptr [.int .i64 a.l, .int .i64 a.n, .int .i64 a.s, .list 4 (a.es.map edgeA)]), (1, .int .i64 x), (5, .slc b13 0 (a.n * a.n).toNat c13), (6, .int .i64 i)]) (fun i G => Own 1 G (.slc b13 0 (a.n * a.n).toNat c13) ((letL a x i).map (AV.int .i64))) (fun i => a.es.length - i) (fun i => i ≤ a.es.length) 0 (by omega) ⟨rfl, rfl, rfl, rfl, trivial⟩ hO13 ?_)
  rintro i G0 hI0 hO0
  have hz := letL_len a x i
  all_goals (refine AWP.seq ?_)
  all_goals (refine AWP.seqR rfl ?_)
  all_goals (refine ASL.light rfl rfl (opMove (v := .int _ _) rfl rfl) ?_)
  all_goals (first | (refine ASL.light rfl rfl (opFieldAddrR rfl fieldA_35_3 rfl rfl) ?_) | (refine ASL.light rfl rfl (opFieldAddr rfl fieldA_35_3 rfl rfl) ?_))
  all_goals (first | (refine ASL.light rfl rfl (opLoadR (v := .list _ _) rfl aggA_33 rfl rfl) ?_) | (refine ASL.light rfl rfl (opLoadR (v := .slc _ _ _ _) rfl aggA_33 rfl rfl) ?_) | (refine ASL.light rfl rfl (opLoadR (v := .nil) rfl aggA_33 rfl rfl) ?_) | (refine ASL.light rfl rfl (opLoadOwnM rfl aggA_33 rfl (by assumption) (by first | first | omega | (rw [List.length_set]; omega) | (simp; omega) | (simp; first | omega | (rw [List.length_set]; omega) | (simp; omega))) (fun _ => rfl)) ?_))
  all_goals (first | (refine ASL.light rfl rfl (opLenMap rfl rfl rfl lenT_33 rfl) ?_) | (refine ASL.light rfl rfl (opLenOf rfl rfl rfl lenT_33 rfl rfl) ?_))
  all_goals (refine ASL.dec rfl rfl (opInt rfl rfl rfl rfl) ?_ ?_ <;> intro h18)
  all_goals (refine ASL.done ?_)
  all_goals (first
    | (
      refine AWP.condF rfl ?_
      all_goals (refine AWP.exit ?_))
    | (
      refine AWP.condT rfl ?_
      all_goals (refine AWP.skip ?_)
      all_goals (refine AWP.seq ?_)
      all_goals (refine AWP.block ?_)
      all_goals (refine AWP.seqR rfl ?_)
      all_goals (first | (refine ASL.light rfl rfl (opFieldAddrR rfl fieldA_35_3 rfl rfl) ?_) | (refine ASL.light rfl rfl (opFieldAddr rfl fieldA_35_3 rfl rfl) ?_))
      all_goals (first | (refine ASL.light rfl rfl (opLoadR (v := .list _ _) rfl aggA_33 rfl rfl) ?_) | (refine ASL.light rfl rfl (opLoadR (v := .slc _ _ _ _) rfl aggA_33 rfl rfl) ?_) | (refine ASL.light rfl rfl (opLoadR (v := .nil) rfl aggA_33 rfl rfl) ?_) | (refine ASL.light rfl rfl (opLoadOwnM rfl aggA_33 rfl (by assumption) (by first | first | omega | (rw [List.length_set]; omega) | (simp; omega) | (simp; first | omega | (rw [List.length_set]; omega) | (simp; omega))) (fun _ => rfl)) ?_))
      all_goals (refine ASL.light rfl rfl (opMove (v := .int _ _) rfl rfl) ?_)
      all_goals (first | (refine ASL.light rfl rfl (opIndexN rfl rfl rfl elemA_33 sizeA_96 (by first | omega | (rw [List.length_set]; omega) | (simp; omega)) rfl) ?_) | (refine ASL.light rfl rfl (opIndexMap rfl rfl rfl elemA_33 sizeA_96 (by first | omega | (rw [List.length_set]; omega) | (simp; omega)) (by first | omega | (rw [List.length_set]; omega) | (simp; omega)) rfl) ?_) | (refine ASL.light rfl rfl (opIndexAddrN rfl rfl rfl elemA_33 sizeA_96 (by first | omega | (rw [List.length_set]; omega) | (simp; omega))) ?_) | (refine ASL.light rfl rfl (opIndexAddr rfl rfl rfl elemA_33 sizeA_96 (by first | omega | (rw [List.length_set]; omega) | (simp; omega)) (by first | omega | (rw [List.length_set]; omega) | (simp; omega)) rfl) ?_))
      all_goals (refine ASL.light rfl rfl (opLoadRA rfl aggA_96 sizeA_96 rfl (by first | exact Nat.le_of_ble_eq_true rfl | (simp; done)) rfl) ?_)
      all_goals (refine ASL.heavy1 rfl rfl (opAlloc rfl zeroA_96 ?_); intro b7 hb7)
      all_goals (refine ASL.store rfl rfl (opStoreNew rfl sizeA_96 rfl rfl (Heap.set_same _ _ _) rfl rfl rfl rfl ?_))
      all_goals (refine ASL.done ?_)
      all_goals (refine AWP.settle 7 rfl (Heap.set_same _ _ _) hb7 (fun c x hc hne => by rw [Heap.set_ne _ _ hne, Heap.set_ne _ _ hne]; exact hc) ?_)
      all_goals (refine AWP.seqR rfl ?_)
      all_goals (first | (refine ASL.light rfl rfl (opFieldAddrR rfl fieldA_96_1 rfl rfl) ?_) | (refine ASL.light rfl rfl (opFieldAddr rfl fieldA_96_1 rfl rfl) ?_))
      all_goals (first | (refine ASL.light rfl rfl (opLoadR (v := .int _ _) rfl aggA_3 rfl rfl) ?_) | (refine ASL.light rfl rfl (opLoadOwnI rfl aggA_3 rfl (by assumption) (by first | first | omega | (rw [List.length_set]; omega) | (simp; omega) | (simp; first | omega | (rw [List.length_set]; omega) | (simp; omega)))) ?_))
      all_goals (refine ASL.light rfl rfl (opMove (v := .int _ _) rfl rfl) ?_)
      all_goals (refine ASL.dec rfl rfl (opInt rfl rfl rfl rfl) ?_ ?_ <;> intro h29)
      all_goals (refine ASL.done ?_)
      all_goals (first
        | (
          refine AWP.condF rfl ?_
          all_goals (refine AWP.skip ?_))
        | (
          refine AWP.condT rfl ?_
          all_goals (refine AWP.seqR rfl ?_)
          all_goals (first | (refine ASL.light rfl rfl (opMove (v := .list _ _) rfl rfl) ?_) | (refine ASL.light rfl rfl (opMove (v := .slc _ _ _ _) rfl rfl) ?_) | (refine ASL.light rfl rfl (opMove (v := .nil) rfl rfl) ?_))
          all_goals (first | (refine ASL.light rfl rfl (opFieldAddrR rfl fieldA_96_0 rfl rfl) ?_) | (refine ASL.light rfl rfl (opFieldAddr rfl fieldA_96_0 rfl rfl) ?_))
          all_goals (first | (refine ASL.light rfl rfl (opLoadR (v := .int _ _) rfl aggA_3 rfl rfl) ?_) | (refine ASL.light rfl rfl (opLoadOwnI rfl aggA_3 rfl (by assumption) (by first | first | omega | (rw [List.length_set]; omega) | (simp; omega) | (simp; first | omega | (rw [List.length_set]; omega) | (simp; omega)))) ?_))
          all_goals (first | (refine ASL.light rfl rfl (opFieldAddrR rfl fieldA_35_1 rfl rfl) ?_) | (refine ASL.light rfl rfl (opFieldAddr rfl fieldA_35_1 rfl rfl) ?_))
          all_goals (first | (refine ASL.light rfl rfl (opLoadR (v := .int _ _) rfl aggA_3 rfl rfl) ?_) | (refine ASL.light rfl rfl (opLoadOwnI rfl aggA_3 rfl (by assumption) (by first | first | omega | (rw [List.length_set]; omega) | (simp; omega) | (simp; first | omega | (rw [List.length_set]; omega) | (simp; omega)))) ?_))
          all_goals (first | (have he := (autoOk_inv hk.1).2 i (by omega); have hix := edge_ix hk.2 he.1 he.2.1; refine ASL.light rfl rfl (opMul rfl rfl rfl (by first | omega | (rw [List.length_set]; omega) | (simp; omega))) ?_) | (have he := (autoOk_inv hk.1).2 i (by omega); have hix := edge_ix hk.2 he.1 he.2.1; refine ASL.light rfl rfl (opInt rfl rfl rfl rfl) ?_))
          all_goals (first | (refine ASL.light rfl rfl (opFieldAddrR rfl fieldA_96_2 rfl rfl) ?_) | (refine ASL.light rfl rfl (opFieldAddr rfl fieldA_96_2 rfl rfl) ?_))
          all_goals (first | (refine ASL.light rfl rfl (opLoadR (v := .int _ _) rfl aggA_3 rfl rfl) ?_) | (refine ASL.light rfl rfl (opLoadOwnI rfl aggA_3 rfl (by assumption) (by first | first | omega | (rw [List.length_set]; omega) | (simp; omega) | (simp; first | omega | (rw [List.length_set]; omega) | (simp; omega)))) ?_))
          all_goals (first | (refine ASL.light rfl rfl (opAdd rfl rfl rfl (by first | omega | (rw [List.length_set]; omega) | (simp; omega))) ?_) | (refine ASL.light rfl rfl (opInt rfl rfl rfl rfl) ?_))
          all_goals (first | (refine ASL.light rfl rfl (opIndexIN rfl rfl rfl elemA_22 sizeA_3 (by first | omega | (rw [List.length_set]; omega) | (simp; omega))) ?_) | (refine ASL.light rfl rfl (opIndexI rfl rfl rfl elemA_22 sizeA_3 (by first | omega | (rw [List.length_set]; omega) | (simp; omega)) (by first | omega | (rw [List.length_set]; omega) | (simp; omega))) ?_) | (refine ASL.light rfl rfl (opIndexN rfl rfl rfl elemA_22 sizeA_3 (by first | omega | (rw [List.length_set]; omega) | (simp; omega)) rfl) ?_) | (refine ASL.light rfl rfl (opIndexMap rfl rfl rfl elemA_22 sizeA_3 (by first | omega | (rw [List.length_set]; omega) | (simp; omega)) (by first | omega | (rw [List.length_set]; omega) | (simp; omega)) rfl) ?_) | (refine ASL.light rfl rfl (opIndexAddrN rfl rfl rfl elemA_22 sizeA_3 (by first | omega | (rw [List.length_set]; omega) | (simp; omega))) ?_) | (refine ASL.light rfl rfl (opIndexAddr rfl rfl rfl elemA_22 sizeA_3 (by first | omega | (rw [List.length_set]; omega) | (simp; omega)) (by first | omega | (rw [List.length_set]; omega) | (simp; omega)) rfl) ?_))
          all_goals (refine ASL.store rfl rfl (opStoreOwnI rfl sizeA_3 rfl rfl (by assumption) (by first | first | omega | (rw [List.length_set]; omega) | (simp; omega) | (simp; first | omega | (rw [List.length_set]; omega) | (simp; omega))) ?_); rintro Gs1 hOs1 hBs1)
          all_goals (refine ASL.done ?_)
          all_goals (refine AWP.seqR rfl ?_)
          all_goals (first | (refine ASL.light rfl rfl (opFieldAddrR rfl fieldA_96_3 rfl rfl) ?_) | (refine ASL.light rfl rfl (opFieldAddr rfl fieldA_96_3 rfl rfl) ?_))
          all_goals (refine ASL.bool rfl rfl (opLoadR (v := .bool _) rfl aggA_4 rfl rfl) ?_ ?_ <;> intro h41)
          all_goals (refine ASL.done ?_)
          all_goals (first
            | (
              refine AWP.condF rfl ?_
              all_goals (refine AWP.skip ?_))
            | (
              refine AWP.condT rfl ?_
              all_goals (refine AWP.lastR rfl ?_)
              all_goals (first | (refine ASL.light rfl rfl (opMove (v := .list _ _) rfl rfl) ?_) | (refine ASL.light rfl rfl (opMove (v := .slc _ _ _ _) rfl rfl) ?_) | (refine ASL.light rfl rfl (opMove (v := .nil) rfl rfl) ?_))
              all_goals (first | (refine ASL.light rfl rfl (opFieldAddrR rfl fieldA_96_0 rfl rfl) ?_) | (refine ASL.light rfl rfl (opFieldAddr rfl fieldA_96_0 rfl rfl) ?_))
              all_goals (first | (refine ASL.light rfl rfl (opLoadR (v := .int _ _) rfl aggA_3 rfl rfl) ?_) | (refine ASL.light rfl rfl (opLoadOwnI rfl aggA_3 rfl (by assumption) (by first | first | omega | (rw [List.length_set]; omega) | (simp; omega) | (simp; first | omega | (rw [List.length_set]; omega) | (simp; omega)))) ?_))
              all_goals (first | (refine ASL.light rfl rfl (opFieldAddrR rfl fieldA_35_1 rfl rfl) ?_) | (refine ASL.light rfl rfl (opFieldAddr rfl fieldA_35_1 rfl rfl) ?_))
              all_goals (first | (refine ASL.light rfl rfl (opLoadR (v := .int _ _) rfl aggA_3 rfl rfl) ?_) | (refine ASL.light rfl rfl (opLoadOwnI rfl aggA_3 rfl (by assumption) (by first | first | omega | (rw [List.length_set]; omega) | (simp; omega) | (simp; first | omega | (rw [List.length_set]; omega) | (simp; omega)))) ?_))
              all_goals (first | (refine ASL.light rfl rfl (opMul rfl rfl rfl (by first | omega | (rw [List.length_set]; omega) | (simp; omega))) ?_) | (refine ASL.light rfl rfl (opInt rfl rfl rfl rfl) ?_))
              all_goals (first | (refine ASL.light rfl rfl (opFieldAddrR rfl fieldA_96_2 rfl rfl) ?_) | (refine ASL.light rfl rfl (opFieldAddr rfl fieldA_96_2 rfl rfl) ?_))
              all_goals (first | (refine ASL.light rfl rfl (opLoadR (v := .int _ _) rfl aggA_3 rfl rfl) ?_) | (refine ASL.light rfl rfl (opLoadOwnI rfl aggA_3 rfl (by assumption) (by first | first | omega | (rw [List.length_set]; omega) | (simp; omega) | (simp; first | omega | (rw [List.length_set]; omega) | (simp; omega)))) ?_))
              all_goals (first | (refine ASL.light rfl rfl (opAdd rfl rfl rfl (by first | omega | (rw [List.length_set]; omega) | (simp; omega))) ?_) | (refine ASL.light rfl rfl (opInt rfl rfl rfl rfl) ?_))
              all_goals (first | (refine ASL.light rfl rfl (opIndexIN rfl rfl rfl elemA_22 sizeA_3 (by first | omega | (rw [List.length_set]; omega) | (simp; omega))) ?_) | (refine ASL.light rfl rfl (opIndexI rfl rfl rfl elemA_22 sizeA_3 (by first | omega | (rw [List.length_set]; omega) | (simp; omega)) (by first | omega | (rw [List.length_set]; omega) | (simp; omega))) ?_) | (refine ASL.light rfl rfl (opIndexN rfl rfl rfl elemA_22 sizeA_3 (by first | omega | (rw [List.length_set]; omega) | (simp; omega)) rfl) ?_) | (refine ASL.light rfl rfl (opIndexMap rfl rfl rfl elemA_22 sizeA_3 (by first | omega | (rw [List.length_set]; omega) | (simp; omega)) (by first | omega | (rw [List.length_set]; omega) | (simp; omega)) rfl) ?_) | (refine ASL.light rfl rfl (opIndexAddrN rfl rfl rfl elemA_22 sizeA_3 (by first | omega | (rw [List.length_set]; omega) | (simp; omega))) ?_) | (refine ASL.light rfl rfl (opIndexAddr rfl rfl rfl elemA_22 sizeA_3 (by first | omega | (rw [List.length_set]; omega) | (simp; omega)) (by first | omega | (rw [List.length_set]; omega) | (simp; omega)) rfl) ?_))
              all_goals (refine ASL.store rfl rfl (opStoreOwnI rfl sizeA_3 rfl rfl (by assumption) (by first | first | omega | (rw [List.length_set]; omega) | (simp; omega) | (simp; first | omega | (rw [List.length_set]; omega) | (simp; omega))) ?_); rintro Gs2 hOs2 hBs2)
              all_goals (refine ASL.done ?_)))))
      all_goals (refine AWP.lastR rfl ?_)
      all_goals (refine ASL.light rfl rfl (opMove (v := .int _ _) rfl rfl) ?_)
      all_goals (first | (refine ASL.light rfl rfl (opAdd rfl rfl rfl (by first | omega | (rw [List.length_set]; omega) | (simp; omega))) ?_) | (refine ASL.light rfl rfl (opInt rfl rfl rfl rfl) ?_))
      all_goals (refine ASL.light rfl rfl (opAssign (v := .int _ _) rfl rfl) ?_)
      all_goals (refine ASL.done ?_)
      all_goals (first | exact ⟨i + 1, by omega, by omega, ⟨rfl, rfl, rfl, rfl, trivial⟩, by rw [← letL_skip (by omega) (by assumption)]; exact hO0⟩ | exact ⟨i + 1, by omega, by omega, ⟨rfl, rfl, rfl, rfl, trivial⟩, by rw [← letL_good (by omega) (by omega) (by assumption)]; exact hOs2⟩ | exact ⟨i + 1, by omega, by omega, ⟨rfl, rfl, rfl, rfl, trivial⟩, by rw [← letL_bad (by omega) (by omega) (by assumption)]; exact hOs1⟩)))
  all_goals (refine AWP.seqR rfl ?_)
  all_goals (first | (refine ASL.light rfl rfl (opMove (v := .list _ _) rfl rfl) ?_) | (refine ASL.light rfl rfl (opMove (v := .slc _ _ _ _) rfl rfl) ?_) | (refine ASL.light rfl rfl (opMove (v := .nil) rfl rfl) ?_))
  all_goals (first | (refine ASL.light rfl rfl (opAssign (v := .list _ _) rfl rfl) ?_) | (refine ASL.light rfl rfl (opAssign (v := .slc _ _ _ _) rfl rfl) ?_) | (refine ASL.light rfl rfl (opAssign (v := .nil) rfl rfl) ?_))
  all_goals (refine ASL.done ?_)
  all_goals (refine AWP.ret ?_)
  all_goals (repeat with_reducible refine QThen.ret1 ?_)
  all_goals (refine QRet.one rfl rfl ?_; unfold boxLetterL; rw [show a.es.length = i by omega]; exact hO0)

set_option maxRecDepth 10000 in
theorem impl_boxLetter (a : AutoD) (x : Int) (hk : autoOk a = true ∧ 1 ≤ a.n ∧ a.n ≤ 4) (hl : a.es.length ≤ 1048576) : PO Try.prog 78 [autoA a, .int .i64 x] 1 ((boxLetterL a x).map (AV.int .i64)) := by
  refine HC.enter Try.func78 rfl Try.ntmps78 (by simp) ?_
  have hnn := nn4 hk.2
  all_goals (refine AWP.seqR rfl ?_)
  all_goals (refine ASL.boxI rfl rfl rfl rfl rfl ?_)
  all_goals (first | (refine ASL.light rfl rfl (opAssign (v := .list _ _) rfl rfl) ?_) | (refine ASL.light rfl rfl (opAssign (v := .slc _ _ _ _) rfl rfl) ?_) | (refine ASL.light rfl rfl (opAssign (v := .nil) rfl rfl) ?_))
  all_goals (refine ASL.done ?_)
  all_goals (refine AWP.seqR rfl ?_)
  all_goals (first | (refine ASL.light rfl rfl (opFieldAddrR rfl fieldA_35_1 rfl rfl) ?_) | (refine ASL.light rfl rfl (opFieldAddr rfl fieldA_35_1 rfl rfl) ?_))
  all_goals (first | (refine ASL.light rfl rfl (opLoadR (v := .int _ _) rfl aggA_3 rfl rfl) ?_) | (refine ASL.light rfl rfl (opLoadOwnI rfl aggA_3 rfl (by assumption) (by first | first | omega | (rw [List.length_set]; omega) | (simp; omega) | (simp; first | omega | (rw [List.length_set]; omega) | (simp; omega)))) ?_))
  all_goals (first | (refine ASL.light rfl rfl (opFieldAddrR rfl fieldA_35_1 rfl rfl) ?_) | (refine ASL.light rfl rfl (opFieldAddr rfl fieldA_35_1 rfl rfl) ?_))
  all_goals (first | (refine ASL.light rfl rfl (opLoadR (v := .int _ _) rfl aggA_3 rfl rfl) ?_) | (refine ASL.light rfl rfl (opLoadOwnI rfl aggA_3 rfl (by assumption) (by first | first | omega | (rw [List.length_set]; omega) | (simp; omega) | (simp; first | omega | (rw [List.length_set]; omega) | (simp; omega)))) ?_))
  all_goals (first | (refine ASL.light rfl rfl (opMul rfl rfl rfl (by first | omega | (rw [List.length_set]; omega) | (simp; omega))) ?_) | (refine ASL.light rfl rfl (opInt rfl rfl rfl rfl) ?_))
  all_goals (refine ASL.heavy1 rfl rfl (opMakeM (f := AV.int .i64) (z0 := 0) rfl elemA_22 sizeA_3 bytesA_3 zeroA_3 rfl rfl (by decide) rfl rfl (by omega) (by omega) (by omega) ?_); rintro b13 c13 G13 hO13 hK13 hN13)
  all_goals (first | (refine ASL.light rfl rfl (opAssign (v := .list _ _) rfl rfl) ?_) | (refine ASL.light rfl rfl (opAssign (v := .slc _ _ _ _) rfl rfl) ?_) | (refine ASL.light rfl rfl (opAssign (v := .nil) rfl rfl) ?_))
  all_goals (refine ASL.done ?_)
  all_goals (refine AWP.seq ?_)
  all_goals (refine AWP.seqR rfl ?_)
  all_goals (first | (refine ASL.light rfl rfl (opFieldAddrR rfl fieldA_35_3 rfl rfl) ?_) | (refine ASL.light rfl rfl (opFieldAddr rfl fieldA_35_3 rfl rfl) ?_))
  all_goals (first | (refine ASL.light rfl rfl (opLoadR (v := .list _ _) rfl aggA_33 rfl rfl) ?_) | (refine ASL.light rfl rfl (opLoadR (v := .slc _ _ _ _) rfl aggA_33 rfl rfl) ?_) | (refine ASL.light rfl rfl (opLoadR (v := .nil) rfl aggA_33 rfl rfl) ?_) | (refine ASL.light rfl rfl (opLoadOwnM rfl aggA_33 rfl (by assumption) (by first | first | omega | (rw [List.length_set]; omega) | (simp; omega) | (simp; first | omega | (rw [List.length_set]; omega) | (simp; omega))) (fun _ => rfl)) ?_))
  all_goals (first | (refine ASL.light rfl rfl (opLenMap rfl rfl rfl lenT_33 rfl) ?_) | (refine ASL.light rfl rfl (opLenOf rfl rfl rfl lenT_33 rfl rfl) ?_))
  all_goals (refine ASL.light rfl rfl (opMove (v := .int _ _) rfl rfl) ?_)
  all_goals (refine ASL.done ?_)
  all_goals (refine AWP.block ?_)
  all_goals (refine AWP.loopL (α := Nat) (fun i => [(2, .rptr [.int .i64 a.l, .int .i64 a.n, .int .i64 a.s, .list 4 (a.es.map edgeA)]), (1, .int .i64 x), (5, .slc b13 0 (a.n * a.n).toNat c13), (15, .list 4 (a.es.map edgeA)), (16, .int .i64 a.es.length), (17, .int .i64 i)]) (fun i G => Own 1 G (.slc b13 0 (a.n * a.n).toNat c13) ((letL a x i).map (AV.int .i64))) (fun i => a.es.length - i) (fun i => i ≤ a.es.length) 0 (by omega) ⟨rfl, rfl, rfl, rfl, rfl, rfl, trivial⟩ hO13 ?_)
  rintro i G0 hI0 hO0
  have hz := letL_len a x i
  all_goals (refine AWP.seqR rfl ?_)
  all_goals (refine ASL.dec rfl rfl (opInt rfl rfl rfl rfl) ?_ ?_ <;> intro h18)
  all_goals (refine ASL.done ?_)
  all_goals (refine AWP.seq ?_)
  all_goals (first
    | (
      refine AWP.condF rfl ?_
      all_goals (refine AWP.exit ?_))
    | (
      refine AWP.condT rfl ?_
      all_goals (refine AWP.skip ?_)
      all_goals (refine AWP.seq ?_)
      all_goals (refine AWP.block ?_)
      all_goals (refine AWP.seqR rfl ?_)
      all_goals (first | (refine ASL.light rfl rfl (opIndexN rfl rfl rfl elemA_33 sizeA_96 (by first | omega | (rw [List.length_set]; omega) | (simp; omega)) rfl) ?_) | (refine ASL.light rfl rfl (opIndexMap rfl rfl rfl elemA_33 sizeA_96 (by first | omega | (rw [List.length_set]; omega) | (simp; omega)) (by first | omega | (rw [List.length_set]; omega) | (simp; omega)) rfl) ?_) | (refine ASL.light rfl rfl (opIndexAddrN rfl rfl rfl elemA_33 sizeA_96 (by first | omega | (rw [List.length_set]; omega) | (simp; omega))) ?_) | (refine ASL.light rfl rfl (opIndexAddr rfl rfl rfl elemA_33 sizeA_96 (by first | omega | (rw [List.length_set]; omega) | (simp; omega)) (by first | omega | (rw [List.length_set]; omega) | (simp; omega)) rfl) ?_))
      all_goals (refine ASL.light rfl rfl (opLoadRA rfl aggA_96 sizeA_96 rfl (by first | exact Nat.le_of_ble_eq_true rfl | (simp; done)) rfl) ?_)
      all_goals (refine ASL.heavy1 rfl rfl (opAlloc rfl zeroA_96 ?_); intro b7 hb7)
      all_goals (refine ASL.store rfl rfl (opStoreNew rfl sizeA_96 rfl rfl (Heap.set_same _ _ _) rfl rfl rfl rfl ?_))
      all_goals (refine ASL.done ?_)
      all_goals (refine AWP.seq ?_)
      all_goals (refine AWP.settle 7 rfl (Heap.set_same _ _ _) hb7 (fun c x hc hne => by rw [Heap.set_ne _ _ hne, Heap.set_ne _ _ hne]; exact hc) ?_)
      all_goals (refine AWP.seqR rfl ?_)
      all_goals (first | (refine ASL.light rfl rfl (opFieldAddrR rfl fieldA_96_1 rfl rfl) ?_) | (refine ASL.light rfl rfl (opFieldAddr rfl fieldA_96_1 rfl rfl) ?_))
      all_goals (first | (refine ASL.light rfl rfl (opLoadR (v := .int _ _) rfl aggA_3 rfl rfl) ?_) | (refine ASL.light rfl rfl (opLoadOwnI rfl aggA_3 rfl (by assumption) (by first | first | omega | (rw [List.length_set]; omega) | (simp; omega) | (simp; first | omega | (rw [List.length_set]; omega) | (simp; omega)))) ?_))
      all_goals (refine ASL.light rfl rfl (opMove (v := .int _ _) rfl rfl) ?_)
      all_goals (refine ASL.dec rfl rfl (opInt rfl rfl rfl rfl) ?_ ?_ <;> intro h24)
      all_goals (refine ASL.done ?_)
      all_goals (first
        | (
          refine AWP.condT rfl ?_
          all_goals (refine AWP.exit ?_))
        | (
          refine AWP.condF rfl ?_
          all_goals (refine AWP.skip ?_)
          all_goals (refine AWP.seqR rfl ?_)
          all_goals (first | (refine ASL.light rfl rfl (opMove (v := .list _ _) rfl rfl) ?_) | (refine ASL.light rfl rfl (opMove (v := .slc _ _ _ _) rfl rfl) ?_) | (refine ASL.light rfl rfl (opMove (v := .nil) rfl rfl) ?_))
          all_goals (first | (refine ASL.light rfl rfl (opFieldAddrR rfl fieldA_96_0 rfl rfl) ?_) | (refine ASL.light rfl rfl (opFieldAddr rfl fieldA_96_0 rfl rfl) ?_))
          all_goals (first | (refine ASL.light rfl rfl (opLoadR (v := .int _ _) rfl aggA_3 rfl rfl) ?_) | (refine ASL.light rfl rfl (opLoadOwnI rfl aggA_3 rfl (by assumption) (by first | first | omega | (rw [List.length_set]; omega) | (simp; omega) | (simp; first | omega | (rw [List.length_set]; omega) | (simp; omega)))) ?_))
          all_goals (first | (refine ASL.light rfl rfl (opFieldAddrR rfl fieldA_35_1 rfl rfl) ?_) | (refine ASL.light rfl rfl (opFieldAddr rfl fieldA_35_1 rfl rfl) ?_))
          all_goals (first | (refine ASL.light rfl rfl (opLoadR (v := .int _ _) rfl aggA_3 rfl rfl) ?_) | (refine ASL.light rfl rfl (opLoadOwnI rfl aggA_3 rfl (by assumption) (by first | first | omega | (rw [List.length_set]; omega) | (simp; omega) | (simp; first | omega | (rw [List.length_set]; omega) | (simp; omega)))) ?_))
          all_goals (first | (have he := (autoOk_inv hk.1).2 i (by omega); have hix := edge_ix hk.2 he.1 he.2.1; refine ASL.light rfl rfl (opMul rfl rfl rfl (by first | omega | (rw [List.length_set]; omega) | (simp; omega))) ?_) | (have he := (autoOk_inv hk.1).2 i (by omega); have hix := edge_ix hk.2 he.1 he.2.1; refine ASL.light rfl rfl (opInt rfl rfl rfl rfl) ?_))
          all_goals (first | (refine ASL.light rfl rfl (opFieldAddrR rfl fieldA_96_2 rfl rfl) ?_) | (refine ASL.light rfl rfl (opFieldAddr rfl fieldA_96_2 rfl rfl) ?_))
          all_goals (first | (refine ASL.light rfl rfl (opLoadR (v := .int _ _) rfl aggA_3 rfl rfl) ?_) | (refine ASL.light rfl rfl (opLoadOwnI rfl aggA_3 rfl (by assumption) (by first | first | omega | (rw [List.length_set]; omega) | (simp; omega) | (simp; first | omega | (rw [List.length_set]; omega) | (simp; omega)))) ?_))
          all_goals (first | (refine ASL.light rfl rfl (opAdd rfl rfl rfl (by first | omega | (rw [List.length_set]; omega) | (simp; omega))) ?_) | (refine ASL.light rfl rfl (opInt rfl rfl rfl rfl) ?_))
          all_goals (first | (refine ASL.light rfl rfl (opIndexIN rfl rfl rfl elemA_22 sizeA_3 (by first | omega | (rw [List.length_set]; omega) | (simp; omega))) ?_) | (refine ASL.light rfl rfl (opIndexI rfl rfl rfl elemA_22 sizeA_3 (by first | omega | (rw [List.length_set]; omega) | (simp; omega)) (by first | omega | (rw [List.length_set]; omega) | (simp; omega))) ?_) | (refine ASL.light rfl rfl (opIndexN rfl rfl rfl elemA_22 sizeA_3 (by first | omega | (rw [List.length_set]; omega) | (simp; omega)) rfl) ?_) | (refine ASL.light rfl rfl (opIndexMap rfl rfl rfl elemA_22 sizeA_3 (by first | omega | (rw [List.length_set]; omega) | (simp; omega)) (by first | omega | (rw [List.length_set]; omega) | (simp; omega)) rfl) ?_) | (refine ASL.light rfl rfl (opIndexAddrN rfl rfl rfl elemA_22 sizeA_3 (by first | omega | (rw [List.length_set]; omega) | (simp; omega))) ?_) | (refine ASL.light rfl rfl (opIndexAddr rfl rfl rfl elemA_22 sizeA_3 (by first | omega | (rw [List.length_set]; omega) | (simp; omega)) (by first | omega | (rw [List.length_set]; omega) | (simp; omega)) rfl) ?_))
          all_goals (refine ASL.store rfl rfl (opStoreOwnI rfl sizeA_3 rfl rfl (by assumption) (by first | first | omega | (rw [List.length_set]; omega) | (simp; omega) | (simp; first | omega | (rw [List.length_set]; omega) | (simp; omega))) ?_); rintro Gs1 hOs1 hBs1)
          all_goals (refine ASL.done ?_)
          all_goals (refine AWP.seqR rfl ?_)
          all_goals (first | (refine ASL.light rfl rfl (opFieldAddrR rfl fieldA_96_3 rfl rfl) ?_) | (refine ASL.light rfl rfl (opFieldAddr rfl fieldA_96_3 rfl rfl) ?_))
          all_goals (refine ASL.bool rfl rfl (opLoadR (v := .bool _) rfl aggA_4 rfl rfl) ?_ ?_ <;> intro h36)
          all_goals (refine ASL.done ?_)
          all_goals (first
            | (
              refine AWP.condF rfl ?_
              all_goals (refine AWP.skip ?_))
            | (
              refine AWP.condT rfl ?_
              all_goals (refine AWP.lastR rfl ?_)
              all_goals (first | (refine ASL.light rfl rfl (opMove (v := .list _ _) rfl rfl) ?_) | (refine ASL.light rfl rfl (opMove (v := .slc _ _ _ _) rfl rfl) ?_) | (refine ASL.light rfl rfl (opMove (v := .nil) rfl rfl) ?_))
              all_goals (first | (refine ASL.light rfl rfl (opFieldAddrR rfl fieldA_96_0 rfl rfl) ?_) | (refine ASL.light rfl rfl (opFieldAddr rfl fieldA_96_0 rfl rfl) ?_))
              all_goals (first | (refine ASL.light rfl rfl (opLoadR (v := .int _ _) rfl aggA_3 rfl rfl) ?_) | (refine ASL.light rfl rfl (opLoadOwnI rfl aggA_3 rfl (by assumption) (by first | first | omega | (rw [List.length_set]; omega) | (simp; omega) | (simp; first | omega | (rw [List.length_set]; omega) | (simp; omega)))) ?_))
              all_goals (first | (refine ASL.light rfl rfl (opFieldAddrR rfl fieldA_35_1 rfl rfl) ?_) | (refine ASL.light rfl rfl (opFieldAddr rfl fieldA_35_1 rfl rfl) ?_))
              all_goals (first | (refine ASL.light rfl rfl (opLoadR (v := .int _ _) rfl aggA_3 rfl rfl) ?_) | (refine ASL.light rfl rfl (opLoadOwnI rfl aggA_3 rfl (by assumption) (by first | first | omega | (rw [List.length_set]; omega) | (simp; omega) | (simp; first | omega | (rw [List.length_set]; omega) | (simp; omega)))) ?_))
              all_goals (first | (refine ASL.light rfl rfl (opMul rfl rfl rfl (by first | omega | (rw [List.length_set]; omega) | (simp; omega))) ?_) | (refine ASL.light rfl rfl (opInt rfl rfl rfl rfl) ?_))
              all_goals (first | (refine ASL.light rfl rfl (opFieldAddrR rfl fieldA_96_2 rfl rfl) ?_) | (refine ASL.light rfl rfl (opFieldAddr rfl fieldA_96_2 rfl rfl) ?_))
              all_goals (first | (refine ASL.light rfl rfl (opLoadR (v := .int _ _) rfl aggA_3 rfl rfl) ?_) | (refine ASL.light rfl rfl (opLoadOwnI rfl aggA_3 rfl (by assumption) (by first | first | omega | (rw [List.length_set]; omega) | (simp; omega) | (simp; first | omega | (rw [List.length_set]; omega) | (simp; omega)))) ?_))
              all_goals (first | (refine ASL.light rfl rfl (opAdd rfl rfl rfl (by first | omega | (rw [List.length_set]; omega) | (simp; omega))) ?_) | (refine ASL.light rfl rfl (opInt rfl rfl rfl rfl) ?_))
              all_goals (first | (refine ASL.light rfl rfl (opIndexIN rfl rfl rfl elemA_22 sizeA_3 (by first | omega | (rw [List.length_set]; omega) | (simp; omega))) ?_) | (refine ASL.light rfl rfl (opIndexI rfl rfl rfl elemA_22 sizeA_3 (by first | omega | (rw [List.length_set]; omega) | (simp; omega)) (by first | omega | (rw [List.length_set]; omega) | (simp; omega))) ?_) | (refine ASL.light rfl rfl (opIndexN rfl rfl rfl elemA_22 sizeA_3 (by first | omega | (rw [List.length_set]; omega) | (simp; omega)) rfl) ?_) | (refine ASL.light rfl rfl (opIndexMap rfl rfl rfl elemA_22 sizeA_3 (by first | omega | (rw [List.length_set]; omega) | (simp; omega)) (by first | omega | (rw [List.length_set]; omega) | (simp; omega)) rfl) ?_) | (refine ASL.light rfl rfl (opIndexAddrN rfl rfl rfl elemA_22 sizeA_3 (by first | omega | (rw [List.length_set]; omega) | (simp; omega))) ?_) | (refine ASL.light rfl rfl (opIndexAddr rfl rfl rfl elemA_22 sizeA_3 (by first | omega | (rw [List.length_set]; omega) | (simp; omega)) (by first | omega | (rw [List.length_set]; omega) | (simp; omega)) rfl) ?_))
              all_goals (refine ASL.store rfl rfl (opStoreOwnI rfl sizeA_3 rfl rfl (by assumption) (by first | first | omega | (rw [List.length_set]; omega) | (simp; omega) | (simp; first | omega | (rw [List.length_set]; omega) | (simp; omega))) ?_); rintro Gs2 hOs2 hBs2)
              all_goals (refine ASL.done ?_)))))
      all_goals (refine AWP.lastR rfl ?_)
      all_goals (first | (refine ASL.light rfl rfl (opAdd rfl rfl rfl (by first | omega | (rw [List.length_set]; omega) | (simp; omega))) ?_) | (refine ASL.light rfl rfl (opInt rfl rfl rfl rfl) ?_))
      all_goals (refine ASL.light rfl rfl (opMove (v := .int _ _) rfl rfl) ?_)
      all_goals (refine ASL.done ?_)
      all_goals (first | exact ⟨i + 1, by omega, by omega, ⟨rfl, rfl, rfl, rfl, rfl, rfl, trivial⟩, by rw [← letL_skip (by omega) (by assumption)]; exact hO0⟩ | exact ⟨i + 1, by omega, by omega, ⟨rfl, rfl, rfl, rfl, rfl, rfl, trivial⟩, by rw [← letL_good (by omega) (by omega) (by assumption)]; exact hOs2⟩ | exact ⟨i + 1, by omega, by omega, ⟨rfl, rfl, rfl, rfl, rfl, rfl, trivial⟩, by rw [← letL_bad (by omega) (by omega) (by assumption)]; exact hOs1⟩)))
  all_goals (refine AWP.seqR rfl ?_)
  all_goals (first | (refine ASL.light rfl rfl (opMove (v := .list _ _) rfl rfl) ?_) | (refine ASL.light rfl rfl (opMove (v := .slc _ _ _ _) rfl rfl) ?_) | (refine ASL.light rfl rfl (opMove (v := .nil) rfl rfl) ?_))
  all_goals (first | (refine ASL.light rfl rfl (opAssign (v := .list _ _) rfl rfl) ?_) | (refine ASL.light rfl rfl (opAssign (v := .slc _ _ _ _) rfl rfl) ?_) | (refine ASL.light rfl rfl (opAssign (v := .nil) rfl rfl) ?_))
  all_goals (refine ASL.done ?_)
  all_goals (refine AWP.ret ?_)
  all_goals (repeat with_reducible refine QThen.ret1 ?_)
  all_goals (refine QRet.one rfl rfl ?_; unfold boxLetterL; rw [show a.es.length = i by omega]; exact hO0)

set_option maxRecDepth 10000 in
theorem spec_BoxOf (a : AutoD) (w : List Int) (hl : a.es.length ≤ 1048576) (hw : w.length ≤ 1048576) : PC Try.prog 45 [autoA a, ints w] (fun v => v = ints (boxOfF a w)) := by
  refine PC.enter Try.func45 rfl Try.ntmps45 (by simp) ?_
  all_goals (refine AWP.seqR rfl ?_)
  all_goals (refine ASL.boxI rfl rfl rfl rfl rfl ?_)
  all_goals (first | (refine ASL.light rfl rfl (opAssign (v := .list _ _) rfl rfl) ?_) | (refine ASL.light rfl rfl (opAssign (v := .slc _ _ _ _) rfl rfl) ?_) | (refine ASL.light rfl rfl (opAssign (v := .nil) rfl rfl) ?_))
  all_goals (refine ASL.done ?_)
  all_goals (refine AWP.seq ?_)
  all_goals (refine AWP.seqR rfl ?_)
  all_goals (refine ASL.light rfl rfl (opLoadRA rfl aggA_35 sizeA_35 rfl (by first | exact Nat.le_of_ble_eq_true rfl | (simp; done)) rfl) ?_)
  all_goals (refine ASL.callD rfl rfl rfl rfl call_91 (spec_l14Right _ (by omega)) rfl ?_ ?_ <;> intro h8)
  all_goals (refine ASL.light rfl rfl (opNot rfl rfl) ?_)
  all_goals (refine ASL.light rfl rfl (opMove (v := .bool _) rfl rfl) ?_)
  all_goals (first | (refine ASL.off rfl rfl ?_) | (refine ASL.light rfl rfl (opMove (v := .list _ _) rfl rfl) ?_) | (refine ASL.light rfl rfl (opMove (v := .slc _ _ _ _) rfl rfl) ?_) | (refine ASL.light rfl rfl (opMove (v := .nil) rfl rfl) ?_))
  all_goals (first | (refine ASL.off rfl rfl ?_) | (refine ASL.light rfl rfl (opLenMap rfl rfl rfl lenT_22 rfl) ?_) | (refine ASL.light rfl rfl (opLenOf rfl rfl rfl lenT_22 rfl rfl) ?_))
  all_goals (first | (refine ASL.off rfl rfl ?_) | (refine ASL.dec rfl rfl (opInt rfl rfl rfl rfl) ?_ ?_ <;> intro h13))
  all_goals (refine ASL.light rfl rfl (opPick (v := .bool _) rfl rfl rfl) ?_)
  all_goals (refine ASL.light rfl rfl (opMove (v := .bool _) rfl rfl) ?_)
  all_goals (first | (refine ASL.off rfl rfl ?_) | (refine ASL.light rfl rfl (opMove (v := .list _ _) rfl rfl) ?_) | (refine ASL.light rfl rfl (opMove (v := .slc _ _ _ _) rfl rfl) ?_) | (refine ASL.light rfl rfl (opMove (v := .nil) rfl rfl) ?_))
  all_goals (first | (refine ASL.off rfl rfl ?_) | (refine ASL.light rfl rfl (opFieldAddrR rfl fieldA_35_0 rfl rfl) ?_) | (refine ASL.light rfl rfl (opFieldAddr rfl fieldA_35_0 rfl rfl) ?_))
  all_goals (first | (refine ASL.off rfl rfl ?_) | (refine ASL.light rfl rfl (opLoadR (v := .int _ _) rfl aggA_3 rfl rfl) ?_) | (refine ASL.light rfl rfl (opLoadOwnI rfl aggA_3 rfl (by assumption) (by first | omega | (simp; omega))) ?_))
  all_goals (first | (refine ASL.off rfl rfl ?_) | (have hh := (autoOk_inv (And.left (by assumption : autoOk a = true ∧ 1 ≤ a.n ∧ a.n ≤ 4))).1; refine ASL.callB rfl rfl rfl rfl call_74 (spec_l3Letters _ _ (by omega) (by omega)) rfl ?_ ?_ <;> intro h19))
  all_goals (first | (refine ASL.off rfl rfl ?_) | (refine ASL.light rfl rfl (opNot rfl rfl) ?_))
  all_goals (refine ASL.light rfl rfl (opPick (v := .bool _) rfl rfl rfl) ?_)
  all_goals (refine ASL.done ?_)
  all_goals (first
    | (
      refine AWP.condT rfl ?_
      all_goals (refine AWP.seqR rfl ?_)
      all_goals (refine ASL.heavy1 rfl rfl (opBuildSliceI (xs := []) rfl elemA_22 sizeA_3 zeroA_3 rfl rfl rfl rfl (by simp [cells]) (by decide) ?_))
      all_goals (first | (refine ASL.light rfl rfl (opAssign (v := .list _ _) rfl rfl) ?_) | (refine ASL.light rfl rfl (opAssign (v := .slc _ _ _ _) rfl rfl) ?_) | (refine ASL.light rfl rfl (opAssign (v := .nil) rfl rfl) ?_))
      all_goals (refine ASL.done ?_)
      all_goals (refine AWP.ret ?_)
      all_goals (repeat with_reducible refine QThen.ret1 ?_)
      all_goals (first | exact QRet.one rfl rfl (by rw [boxOfF_no (fun k => by obtain ⟨k1, k2, k3⟩ := k; first | contradiction | omega | (simp_all; done))]; rfl) | exact QRet.one rfl rfl (by rw [boxOfF_yes ⟨by assumption, by omega, by assumption⟩, show w.length = i by omega]; rfl)))
    | (
      refine AWP.condF rfl ?_
      all_goals (refine AWP.skip ?_)
      all_goals (refine AWP.seqR rfl ?_)
      all_goals (first | (refine ASL.light rfl rfl (opFieldAddrR rfl fieldA_35_1 rfl rfl) ?_) | (refine ASL.light rfl rfl (opFieldAddr rfl fieldA_35_1 rfl rfl) ?_))
      all_goals (first | (refine ASL.light rfl rfl (opLoadR (v := .int _ _) rfl aggA_3 rfl rfl) ?_) | (refine ASL.light rfl rfl (opLoadOwnI rfl aggA_3 rfl (by assumption) (by first | omega | (simp; omega))) ?_))
      all_goals (refine ASL.callP rfl rfl rfl rfl call_19 (PO.list (spec_BoxOne _)) rfl ?_; rintro _ rfl)
      all_goals (first | (refine ASL.light rfl rfl (opAssign (v := .list _ _) rfl rfl) ?_) | (refine ASL.light rfl rfl (opAssign (v := .slc _ _ _ _) rfl rfl) ?_) | (refine ASL.light rfl rfl (opAssign (v := .nil) rfl rfl) ?_))
      all_goals (refine ASL.done ?_)
      all_goals (refine AWP.seq ?_)
      all_goals (refine AWP.seqR rfl ?_)
      all_goals (refine ASL.light rfl rfl (opAssign (v := .int _ _) rfl rfl) ?_)
      all_goals (refine ASL.done ?_)
      all_goals (refine AWP.block ?_)
      all_goals (refine AWP.loopL (α := Nat) (fun i => [(1, ints w), (2, .rptr [.int .i64 a.l, .int .i64 a.n, .int .i64 a.s, .list 4 (a.es.map edgeA)]), (5, ints (boxAcc a w i)), (6, .int .i64 i)]) (fun i G => G = fun _ => none) (fun i => w.length - i) (fun i => i ≤ w.length) 0 (by omega) ⟨rfl, rfl, rfl, rfl, trivial⟩ rfl ?_)
      rintro i G0 hI0 rfl
      all_goals (refine AWP.seq ?_)
      all_goals (refine AWP.seqR rfl ?_)
      all_goals (refine ASL.light rfl rfl (opMove (v := .int _ _) rfl rfl) ?_)
      all_goals (first | (refine ASL.light rfl rfl (opMove (v := .list _ _) rfl rfl) ?_) | (refine ASL.light rfl rfl (opMove (v := .slc _ _ _ _) rfl rfl) ?_) | (refine ASL.light rfl rfl (opMove (v := .nil) rfl rfl) ?_))
      all_goals (first | (refine ASL.light rfl rfl (opLenMap rfl rfl rfl lenT_22 rfl) ?_) | (refine ASL.light rfl rfl (opLenOf rfl rfl rfl lenT_22 rfl rfl) ?_))
      all_goals (refine ASL.dec rfl rfl (opInt rfl rfl rfl rfl) ?_ ?_ <;> intro h29)
      all_goals (refine ASL.done ?_)
      all_goals (first
        | (
          refine AWP.condF rfl ?_
          all_goals (refine AWP.exit ?_))
        | (
          refine AWP.condT rfl ?_
          all_goals (refine AWP.skip ?_)
          all_goals (refine AWP.seq ?_)
          all_goals (refine AWP.block ?_)
          all_goals (refine AWP.lastD [(0, false), (1, false), (2, false), (3, false), (4, false), (5, false), (6, false), (7, false), (8, false), (9, false), (10, false)] mixed (by kernel_rfl) rfl ?_)
          all_goals (first | (refine ARL.light0 rfl rfl rfl (opFieldAddrR rfl fieldA_35_1 rfl rfl) ?_) | (refine ARL.light0 rfl rfl rfl (opFieldAddr rfl fieldA_35_1 rfl rfl) ?_))
          all_goals (first | (refine ARL.light0 rfl rfl rfl (opLoadR (v := .int _ _) rfl aggA_3 rfl rfl) ?_) | (refine ARL.light rfl rfl rfl (opLoadOwnI rfl aggA_3 rfl (by assumption) (by first | omega | (simp; omega))) (by intro b_ hb_; rw [List.mem_singleton.mp hb_]; exact Own.alive (by assumption) (by first | omega | (simp; omega))) ?_))
          all_goals (first | (refine ARL.light0 rfl rfl rfl (opMove (v := .list _ _) rfl rfl) ?_) | (refine ARL.light0 rfl rfl rfl (opMove (v := .slc _ _ _ _) rfl rfl) ?_) | (refine ARL.light0 rfl rfl rfl (opMove (v := .nil) rfl rfl) ?_))
          all_goals (refine ARL.light0 rfl rfl rfl (opLoadRA rfl aggA_35 sizeA_35 rfl (by first | exact Nat.le_of_ble_eq_true rfl | (simp; done)) rfl) ?_)
          all_goals (first | (refine ARL.light0 rfl rfl rfl (opMove (v := .list _ _) rfl rfl) ?_) | (refine ARL.light0 rfl rfl rfl (opMove (v := .slc _ _ _ _) rfl rfl) ?_) | (refine ARL.light0 rfl rfl rfl (opMove (v := .nil) rfl rfl) ?_))
          all_goals (refine ARL.light0 rfl rfl rfl (opMove (v := .int _ _) rfl rfl) ?_)
          all_goals (first | (refine ARL.light0 rfl rfl rfl (opIndexIN rfl rfl rfl elemA_22 sizeA_3 (by omega)) ?_) | (refine ARL.light0 rfl rfl rfl (opIndexI rfl rfl rfl elemA_22 sizeA_3 (by omega) (by omega)) ?_) | (refine ARL.light0 rfl rfl rfl (opIndexN rfl rfl rfl elemA_22 sizeA_3 (by omega) rfl) ?_) | (refine ARL.light0 rfl rfl rfl (opIndexMap rfl rfl rfl elemA_22 sizeA_3 (by omega) (by omega) rfl) ?_) | (refine ARL.light0 rfl rfl rfl (opIndexAddrN rfl rfl rfl elemA_22 sizeA_3 (by omega)) ?_) | (refine ARL.light0 rfl rfl rfl (opIndexAddr rfl rfl rfl elemA_22 sizeA_3 (by omega) (by omega) rfl) ?_))
          all_goals (first | (refine ARL.light0 rfl rfl rfl (opLoadR (v := .int _ _) rfl aggA_3 rfl rfl) ?_) | (refine ARL.light rfl rfl rfl (opLoadOwnI rfl aggA_3 rfl (by assumption) (by first | omega | (simp; omega))) (by intro b_ hb_; rw [List.mem_singleton.mp hb_]; exact Own.alive (by assumption) (by first | omega | (simp; omega))) ?_))
          all_goals (refine ARL.callP rfl rfl rfl rfl call_92 (PO.list (spec_l14Letter _ _ (by assumption) (by omega))) rfl ?_; rintro _ rfl)
          all_goals (refine ARL.callP rfl rfl rfl rfl call_67 (PO.list (spec_mulI a.n _ _ (And.right (by assumption : autoOk a = true ∧ 1 ≤ a.n ∧ a.n ≤ 4)) (boxAcc_ok w (And.right (by assumption : autoOk a = true ∧ 1 ≤ a.n ∧ a.n ≤ 4)) i).1 (letter_len _ _))) rfl ?_; rintro _ rfl)
          all_goals (first | (refine ARL.light0 rfl rfl rfl (opAssign (v := .list _ _) rfl rfl) ?_) | (refine ARL.light0 rfl rfl rfl (opAssign (v := .slc _ _ _ _) rfl rfl) ?_) | (refine ARL.light0 rfl rfl rfl (opAssign (v := .nil) rfl rfl) ?_))
          all_goals (refine ARL.done ?_)
          all_goals (refine AWP.lastR rfl ?_)
          all_goals (refine ASL.light rfl rfl (opMove (v := .int _ _) rfl rfl) ?_)
          all_goals (first | (refine ASL.light rfl rfl (opAdd rfl rfl rfl (by omega)) ?_) | (refine ASL.light rfl rfl (opInt rfl rfl rfl rfl) ?_))
          all_goals (refine ASL.light rfl rfl (opAssign (v := .int _ _) rfl rfl) ?_)
          all_goals (refine ASL.done ?_)
          all_goals (exact ⟨i + 1, by omega, by omega, ⟨rfl, rfl, by rw [← boxAcc_next (by omega)]; rfl, rfl, trivial⟩, rfl⟩)))
      all_goals (refine AWP.seqR rfl ?_)
      all_goals (first | (refine ASL.light rfl rfl (opMove (v := .list _ _) rfl rfl) ?_) | (refine ASL.light rfl rfl (opMove (v := .slc _ _ _ _) rfl rfl) ?_) | (refine ASL.light rfl rfl (opMove (v := .nil) rfl rfl) ?_))
      all_goals (first | (refine ASL.light rfl rfl (opAssign (v := .list _ _) rfl rfl) ?_) | (refine ASL.light rfl rfl (opAssign (v := .slc _ _ _ _) rfl rfl) ?_) | (refine ASL.light rfl rfl (opAssign (v := .nil) rfl rfl) ?_))
      all_goals (refine ASL.done ?_)
      all_goals (refine AWP.ret ?_)
      all_goals (repeat with_reducible refine QThen.ret1 ?_)
      all_goals (first | exact QRet.one rfl rfl (by rw [boxOfF_no (fun k => by obtain ⟨k1, k2, k3⟩ := k; first | contradiction | omega | (simp_all; done))]; rfl) | exact QRet.one rfl rfl (by rw [boxOfF_yes ⟨by assumption, by omega, by assumption⟩, show w.length = i by omega]; rfl))))

set_option maxRecDepth 10000 in
theorem impl_BoxOf (a : AutoD) (w : List Int) (hl : a.es.length ≤ 1048576) (hw : w.length ≤ 1048576) : PO Try.prog 30 [autoA a, ints w] 1 ((boxOfF a w).map (AV.int .i64)) := by
  refine HC.enter Try.func30 rfl Try.ntmps30 (by simp) ?_
  all_goals (refine AWP.seqR rfl ?_)
  all_goals (refine ASL.boxI rfl rfl rfl rfl rfl ?_)
  all_goals (first | (refine ASL.light rfl rfl (opAssign (v := v) rfl rfl) ?_) | (refine ASL.light rfl rfl (opAssign (v := v31) rfl rfl) ?_) | (refine ASL.light rfl rfl (opAssign (v := v44) rfl rfl) ?_) | (refine ASL.light rfl rfl (opAssign (v := .list _ _) rfl rfl) ?_) | (refine ASL.light rfl rfl (opAssign (v := .slc _ _ _ _) rfl rfl) ?_) | (refine ASL.light rfl rfl (opAssign (v := .nil) rfl rfl) ?_))
  all_goals (refine ASL.done ?_)
  all_goals (refine AWP.seq ?_)
  all_goals (refine AWP.seqR rfl ?_)
  all_goals (first | (refine ASL.light rfl rfl (opFieldAddrR rfl fieldA_35_1 rfl rfl) ?_) | (refine ASL.light rfl rfl (opFieldAddr rfl fieldA_35_1 rfl rfl) ?_))
  all_goals (first | (refine ASL.light rfl rfl (opLoadR (v := .int _ _) rfl aggA_3 rfl rfl) ?_) | (refine ASL.light rfl rfl (opLoadRowI rfl aggA_3 rfl (by assumption) (by omega)) ?_) | (refine ASL.light rfl rfl (opLoadOwnI rfl aggA_3 rfl (by assumption) (by first | omega | (simp; omega))) ?_))
  all_goals (first | (refine ASL.callD rfl rfl rfl rfl call_64 (impl_isBoxed _) rfl ?_ ?_ <;> intro h10) | (refine ASL.callRD rfl rfl rfl rfl call_64 (by exact ⟨by first | exact RA.same _ | exact RA.own (by assumption), trivial⟩) (impl_isBoxed _) ?_ ?_ <;> intro h10))
  all_goals (refine ASL.light rfl rfl (opNot rfl rfl) ?_)
  all_goals (refine ASL.light rfl rfl (opMove (v := .bool _) rfl rfl) ?_)
  all_goals (first | (refine ASL.off rfl rfl ?_) | (refine ASL.light rfl rfl (opMove (v := v) rfl rfl) ?_) | (refine ASL.light rfl rfl (opMove (v := v31) rfl rfl) ?_) | (refine ASL.light rfl rfl (opMove (v := v44) rfl rfl) ?_) | (refine ASL.light rfl rfl (opMove (v := .list _ _) rfl rfl) ?_) | (refine ASL.light rfl rfl (opMove (v := .slc _ _ _ _) rfl rfl) ?_) | (refine ASL.light rfl rfl (opMove (v := .nil) rfl rfl) ?_))
  all_goals (first | (refine ASL.off rfl rfl ?_) | (refine ASL.light rfl rfl (opLenOwn rfl rfl rfl lenT_22 rfl (by assumption)) ?_) | (refine ASL.light rfl rfl (opLenMap rfl rfl rfl lenT_22 rfl) ?_) | (refine ASL.light rfl rfl (opLenOf rfl rfl rfl lenT_22 rfl rfl) ?_))
  all_goals (first | (refine ASL.off rfl rfl ?_) | (refine ASL.dec rfl rfl (opInt rfl rfl rfl rfl) ?_ ?_ <;> intro h15))
  all_goals (refine ASL.light rfl rfl (opPick (v := .bool _) rfl rfl rfl) ?_)
  all_goals (refine ASL.light rfl rfl (opMove (v := .bool _) rfl rfl) ?_)
  all_goals (first | (refine ASL.off rfl rfl ?_) | (refine ASL.light rfl rfl (opLoadRA rfl aggA_35 sizeA_35 rfl (by first | exact Nat.le_of_ble_eq_true rfl | (simp; done)) rfl) ?_))
  all_goals (first | (refine ASL.off rfl rfl ?_) | (refine ASL.callB rfl rfl rfl rfl call_75 (impl_AutoOk _ (by omega)) rfl ?_ ?_ <;> intro h19) | (refine ASL.callRB rfl rfl rfl rfl call_75 (by exact ⟨by first | exact RA.same _ | exact RA.own (by assumption), trivial⟩) (impl_AutoOk _ (by omega)) ?_ ?_ <;> intro h19))
  all_goals (first | (refine ASL.off rfl rfl ?_) | (refine ASL.light rfl rfl (opNot rfl rfl) ?_))
  all_goals (refine ASL.light rfl rfl (opPick (v := .bool _) rfl rfl rfl) ?_)
  all_goals (refine ASL.light rfl rfl (opMove (v := .bool _) rfl rfl) ?_)
  all_goals (first | (refine ASL.off rfl rfl ?_) | (refine ASL.light rfl rfl (opMove (v := v) rfl rfl) ?_) | (refine ASL.light rfl rfl (opMove (v := v31) rfl rfl) ?_) | (refine ASL.light rfl rfl (opMove (v := v44) rfl rfl) ?_) | (refine ASL.light rfl rfl (opMove (v := .list _ _) rfl rfl) ?_) | (refine ASL.light rfl rfl (opMove (v := .slc _ _ _ _) rfl rfl) ?_) | (refine ASL.light rfl rfl (opMove (v := .nil) rfl rfl) ?_))
  all_goals (first | (refine ASL.off rfl rfl ?_) | (refine ASL.light rfl rfl (opFieldAddrR rfl fieldA_35_0 rfl rfl) ?_) | (refine ASL.light rfl rfl (opFieldAddr rfl fieldA_35_0 rfl rfl) ?_))
  all_goals (first | (refine ASL.off rfl rfl ?_) | (refine ASL.light rfl rfl (opLoadR (v := .int _ _) rfl aggA_3 rfl rfl) ?_) | (refine ASL.light rfl rfl (opLoadRowI rfl aggA_3 rfl (by assumption) (by omega)) ?_) | (refine ASL.light rfl rfl (opLoadOwnI rfl aggA_3 rfl (by assumption) (by first | omega | (simp; omega))) ?_))
  all_goals (first | (refine ASL.off rfl rfl ?_) | (have hh := (autoOk_inv (by assumption)).1; refine ASL.callB rfl rfl rfl rfl call_77 (impl_areLetters _ _ (by omega) (by omega)) rfl ?_ ?_ <;> intro h26) | (have hh := (autoOk_inv (by assumption)).1; refine ASL.callRB rfl rfl rfl rfl call_77 (by exact ⟨by first | exact RA.same _ | exact RA.own (by assumption), by first | exact RA.same _ | exact RA.own (by assumption), trivial⟩) (impl_areLetters _ _ (by omega) (by omega)) ?_ ?_ <;> intro h26))
  all_goals (first | (refine ASL.off rfl rfl ?_) | (refine ASL.light rfl rfl (opNot rfl rfl) ?_))
  all_goals (refine ASL.light rfl rfl (opPick (v := .bool _) rfl rfl rfl) ?_)
  all_goals (refine ASL.done ?_)
  all_goals (first
    | (
      refine AWP.condT rfl ?_
      all_goals (refine AWP.seqR rfl ?_)
      all_goals (first | (refine ASL.light rfl rfl (opAssign (v := v) rfl rfl) ?_) | (refine ASL.light rfl rfl (opAssign (v := v31) rfl rfl) ?_) | (refine ASL.light rfl rfl (opAssign (v := v44) rfl rfl) ?_) | (refine ASL.light rfl rfl (opAssign (v := .list _ _) rfl rfl) ?_) | (refine ASL.light rfl rfl (opAssign (v := .slc _ _ _ _) rfl rfl) ?_) | (refine ASL.light rfl rfl (opAssign (v := .nil) rfl rfl) ?_))
      all_goals (refine ASL.done ?_)
      all_goals (refine AWP.ret ?_)
      all_goals (repeat with_reducible refine QThen.ret1 ?_)
      all_goals (refine QRet.one rfl rfl ?_; first | (rw [boxOfF_yes ⟨hk, by omega, by assumption⟩, show w.length = i by omega]; exact hO0) | (rw [boxOfF_no (fun k => by obtain ⟨⟨k1, k4⟩, k2, k3⟩ := k; first | contradiction | omega | (simp_all; done))]; exact Own.nil _ _)))
    | (
      refine AWP.condF rfl ?_
      all_goals (refine AWP.skip ?_)
      all_goals (refine AWP.seqR rfl ?_)
      all_goals (first | (refine ASL.light rfl rfl (opFieldAddrR rfl fieldA_35_1 rfl rfl) ?_) | (refine ASL.light rfl rfl (opFieldAddr rfl fieldA_35_1 rfl rfl) ?_))
      all_goals (first | (refine ASL.light rfl rfl (opLoadR (v := .int _ _) rfl aggA_3 rfl rfl) ?_) | (refine ASL.light rfl rfl (opLoadRowI rfl aggA_3 rfl (by assumption) (by omega)) ?_) | (refine ASL.light rfl rfl (opLoadOwnI rfl aggA_3 rfl (by assumption) (by first | omega | (simp; omega))) ?_))
      all_goals (have hk := (And.intro (by assumption : autoOk a = true) (by assumption : 1 ≤ a.n ∧ a.n ≤ 4)); refine ASL.callO rfl rfl rfl rfl call_66 (impl_oneI a.n hk.2) rfl ?_; rintro v31 G31 hO31 hK31 hN31)
      all_goals (first | (refine ASL.light rfl rfl (opAssign (v := v) rfl rfl) ?_) | (refine ASL.light rfl rfl (opAssign (v := v31) rfl rfl) ?_) | (refine ASL.light rfl rfl (opAssign (v := v44) rfl rfl) ?_) | (refine ASL.light rfl rfl (opAssign (v := .list _ _) rfl rfl) ?_) | (refine ASL.light rfl rfl (opAssign (v := .slc _ _ _ _) rfl rfl) ?_) | (refine ASL.light rfl rfl (opAssign (v := .nil) rfl rfl) ?_))
      all_goals (refine ASL.done ?_)
      all_goals (refine AWP.seq ?_)
      all_goals (refine AWP.seqR rfl ?_)
      all_goals (first | (refine ASL.light rfl rfl (opMove (v := v) rfl rfl) ?_) | (refine ASL.light rfl rfl (opMove (v := v31) rfl rfl) ?_) | (refine ASL.light rfl rfl (opMove (v := v44) rfl rfl) ?_) | (refine ASL.light rfl rfl (opMove (v := .list _ _) rfl rfl) ?_) | (refine ASL.light rfl rfl (opMove (v := .slc _ _ _ _) rfl rfl) ?_) | (refine ASL.light rfl rfl (opMove (v := .nil) rfl rfl) ?_))
      all_goals (first | (refine ASL.light rfl rfl (opLenOwn rfl rfl rfl lenT_22 rfl (by assumption)) ?_) | (refine ASL.light rfl rfl (opLenMap rfl rfl rfl lenT_22 rfl) ?_) | (refine ASL.light rfl rfl (opLenOf rfl rfl rfl lenT_22 rfl rfl) ?_))
      all_goals (refine ASL.light rfl rfl (opMove (v := .int _ _) rfl rfl) ?_)
      all_goals (refine ASL.done ?_)
      all_goals (refine AWP.block ?_)
      all_goals (refine AWP.loopL (α := Nat × AV) (fun p => [(1, ints w), (2, .rptr [.int .i64 a.l, .int .i64 a.n, .int .i64 a.s, .list 4 (a.es.map edgeA)]), (5, p.2), (32, ints w), (33, .int .i64 w.length), (34, .int .i64 p.1)]) (fun p G => Own 1 G p.2 ((boxAcc a w p.1).map (AV.int .i64))) (fun p => w.length - p.1) (fun p => p.1 ≤ w.length) (0, v31) (by simp) ⟨rfl, rfl, rfl, rfl, rfl, rfl, trivial⟩ hO31 ?_)
      rintro ⟨i, v⟩ G0 hI0 hO0; dsimp only at hI0 hO0 ⊢
      all_goals (refine AWP.seqR rfl ?_)
      all_goals (refine ASL.dec rfl rfl (opInt rfl rfl rfl rfl) ?_ ?_ <;> intro h35)
      all_goals (refine ASL.done ?_)
      all_goals (refine AWP.seq ?_)
      all_goals (first
        | (
          refine AWP.condF rfl ?_
          all_goals (refine AWP.exit ?_))
        | (
          refine AWP.condT rfl ?_
          all_goals (refine AWP.skip ?_)
          all_goals (refine AWP.seq ?_)
          all_goals (refine AWP.block ?_)
          all_goals (refine AWP.seqR rfl ?_)
          all_goals (first | (refine ASL.light rfl rfl (opIndexOwn rfl elemA_22 sizeA_3 rfl (by assumption) rfl (by omega)) ?_) | (refine ASL.light rfl rfl (opIndexOwnI rfl elemA_22 sizeA_3 rfl (by assumption) rfl (by omega) (by omega)) ?_) | (refine ASL.light rfl rfl (opIndexIN rfl rfl rfl elemA_22 sizeA_3 (by omega)) ?_) | (refine ASL.light rfl rfl (opIndexI rfl rfl rfl elemA_22 sizeA_3 (by omega) (by omega)) ?_) | (refine ASL.light rfl rfl (opIndexN rfl rfl rfl elemA_22 sizeA_3 (by omega) rfl) ?_) | (refine ASL.light rfl rfl (opIndexMap rfl rfl rfl elemA_22 sizeA_3 (by omega) (by omega) rfl) ?_) | (refine ASL.light rfl rfl (opIndexAddrN rfl rfl rfl elemA_22 sizeA_3 (by omega)) ?_) | (refine ASL.light rfl rfl (opIndexAddr rfl rfl rfl elemA_22 sizeA_3 (by omega) (by omega) rfl) ?_))
          all_goals (first | (refine ASL.light rfl rfl (opLoadR (v := .int _ _) rfl aggA_3 rfl rfl) ?_) | (refine ASL.light rfl rfl (opLoadRowI rfl aggA_3 rfl (by assumption) (by omega)) ?_) | (refine ASL.light rfl rfl (opLoadOwnI rfl aggA_3 rfl (by assumption) (by first | omega | (simp; omega))) ?_))
          all_goals (refine ASL.light rfl rfl (opAssign (v := .int _ _) rfl rfl) ?_)
          all_goals (refine ASL.done ?_)
          all_goals (refine AWP.lastD [(0, false), (1, false), (2, false), (3, false), (4, false), (5, false), (6, true), (7, false)] mixed (by kernel_rfl) rfl ?_)
          all_goals (first | (refine ARL.light0 rfl rfl rfl (opFieldAddrR rfl fieldA_35_1 rfl rfl) ?_) | (refine ARL.light0 rfl rfl rfl (opFieldAddr rfl fieldA_35_1 rfl rfl) ?_))
          all_goals (first | (refine ARL.light0 rfl rfl rfl (opLoadR (v := .int _ _) rfl aggA_3 rfl rfl) ?_) | (refine ARL.light rfl rfl rfl (opLoadRowI rfl aggA_3 rfl (by assumption) (by omega)) (Own.alive' (by assumption)) ?_) | (refine ARL.light rfl rfl rfl (opLoadOwnI rfl aggA_3 rfl (by assumption) (by first | omega | (simp; omega))) (by intro b_ hb_; rw [List.mem_singleton.mp hb_]; exact Own.alive (by assumption) (by first | omega | (simp; omega))) ?_))
          all_goals (first | (refine ARL.light0 rfl rfl rfl (opMove (v := v) rfl rfl) ?_) | (refine ARL.light0 rfl rfl rfl (opMove (v := v31) rfl rfl) ?_) | (refine ARL.light0 rfl rfl rfl (opMove (v := v44) rfl rfl) ?_) | (refine ARL.light0 rfl rfl rfl (opMove (v := .list _ _) rfl rfl) ?_) | (refine ARL.light0 rfl rfl rfl (opMove (v := .slc _ _ _ _) rfl rfl) ?_) | (refine ARL.light0 rfl rfl rfl (opMove (v := .nil) rfl rfl) ?_))
          all_goals (refine ARL.light0 rfl rfl rfl (opLoadRA rfl aggA_35 sizeA_35 rfl (by first | exact Nat.le_of_ble_eq_true rfl | (simp; done)) rfl) ?_)
          all_goals (refine ARL.light0 rfl rfl rfl (opMove (v := .int _ _) rfl rfl) ?_)
          all_goals (refine ARL.callP rfl rfl rfl rfl call_78 (PO.list (impl_boxLetter _ _ (by assumption) (by omega))) rfl ?_; rintro _ rfl)
          all_goals (refine ARL.callOR rfl rfl rfl rfl rfl call_68 (by exact ⟨RA.same _, RA.own hO0, RA.same _, trivial⟩) (impl_mulI a.n _ _ hk.2 (boxAcc_ok w hk.2 i).1 (letter_len _ _) (boxAcc_ok w hk.2 i).2 (letter_pos _ _)) (Scal.ints _ _) ?_; rintro v44 G44 hO44 hK44 hN44)
          all_goals (first | (refine ARL.light0 rfl rfl rfl (opAssign (v := v) rfl rfl) ?_) | (refine ARL.light0 rfl rfl rfl (opAssign (v := v31) rfl rfl) ?_) | (refine ARL.light0 rfl rfl rfl (opAssign (v := v44) rfl rfl) ?_) | (refine ARL.light0 rfl rfl rfl (opAssign (v := .list _ _) rfl rfl) ?_) | (refine ARL.light0 rfl rfl rfl (opAssign (v := .slc _ _ _ _) rfl rfl) ?_) | (refine ARL.light0 rfl rfl rfl (opAssign (v := .nil) rfl rfl) ?_))
          all_goals (refine ARL.done ?_)
          all_goals (refine AWP.lastR rfl ?_)
          all_goals (first | (refine ASL.light rfl rfl (opAdd rfl rfl rfl (by omega)) ?_) | (refine ASL.light rfl rfl (opInt rfl rfl rfl rfl) ?_))
          all_goals (refine ASL.light rfl rfl (opMove (v := .int _ _) rfl rfl) ?_)
          all_goals (refine ASL.done ?_)
          all_goals (exact ⟨(i + 1, v44), by dsimp only; omega, by dsimp only; omega, ⟨rfl, rfl, rfl, rfl, rfl, rfl, trivial⟩, by have h := hO44; rw [boxAcc_next (by omega)] at h; exact h⟩)))
      all_goals (refine AWP.seqR rfl ?_)
      all_goals (first | (refine ASL.light rfl rfl (opMove (v := v) rfl rfl) ?_) | (refine ASL.light rfl rfl (opMove (v := v31) rfl rfl) ?_) | (refine ASL.light rfl rfl (opMove (v := v44) rfl rfl) ?_) | (refine ASL.light rfl rfl (opMove (v := .list _ _) rfl rfl) ?_) | (refine ASL.light rfl rfl (opMove (v := .slc _ _ _ _) rfl rfl) ?_) | (refine ASL.light rfl rfl (opMove (v := .nil) rfl rfl) ?_))
      all_goals (first | (refine ASL.light rfl rfl (opAssign (v := v) rfl rfl) ?_) | (refine ASL.light rfl rfl (opAssign (v := v31) rfl rfl) ?_) | (refine ASL.light rfl rfl (opAssign (v := v44) rfl rfl) ?_) | (refine ASL.light rfl rfl (opAssign (v := .list _ _) rfl rfl) ?_) | (refine ASL.light rfl rfl (opAssign (v := .slc _ _ _ _) rfl rfl) ?_) | (refine ASL.light rfl rfl (opAssign (v := .nil) rfl rfl) ?_))
      all_goals (refine ASL.done ?_)
      all_goals (refine AWP.ret ?_)
      all_goals (repeat with_reducible refine QThen.ret1 ?_)
      all_goals (refine QRet.one rfl rfl ?_; first | (rw [boxOfF_yes ⟨hk, by omega, by assumption⟩, show w.length = i by omega]; exact hO0) | (rw [boxOfF_no (fun k => by obtain ⟨⟨k1, k4⟩, k2, k3⟩ := k; first | contradiction | omega | (simp_all; done))]; exact Own.nil _ _))))

set_option maxRecDepth 10000 in
theorem laws_toAuto_o (a : AutoD) (hx : a.es.length ≤ 1048576) : HC Try.prog 40 [autoA a] (fun _ => none) (fun r G => ∃ v, r = .agg [.int .i64 a.l, .int .i64 a.n, .int .i64 a.s, v] ∧ Own 4 G v (a.es.map edgeA)) := by
  refine HC.enter Try.func40 rfl Try.ntmps40 (by simp) ?_
  all_goals (refine AWP.seqR rfl ?_)
  all_goals (refine ASL.boxI rfl rfl rfl rfl rfl ?_)
  all_goals (refine ASL.heavy1 rfl rfl (opAllocAt rfl zeroA_35 ?_); rintro b2 G2 hT2 hK2 hN2)
  all_goals (refine ASL.done ?_)
  all_goals (refine AWP.seqR rfl ?_)
  all_goals (refine ASL.heavy1 rfl rfl (opAllocAt rfl zeroA_35 ?_); rintro b3 G3 hT3 hK3 hN3; try (have hD3_2 := At.ne hT2 hN3); try (have hT2 := At.grow hT2 hK3))
  all_goals (refine ASL.done ?_)
  all_goals (refine AWP.seqR rfl ?_)
  all_goals (first | (refine ASL.light rfl rfl (opFieldAddrR rfl fieldA_47_0 rfl rfl) ?_) | (refine ASL.light rfl rfl (opFieldAddr rfl fieldA_47_0 rfl rfl) ?_))
  all_goals (first | (refine ASL.light rfl rfl (opLoadR (v := .int _ _) rfl aggA_3 rfl rfl) ?_) | (refine ASL.light rfl rfl (opLoadOwnI rfl aggA_3 rfl (by assumption) (by first | omega | (simp; omega))) ?_))
  all_goals (first | (refine ASL.light rfl rfl (opFieldAddrR rfl fieldA_35_0 rfl rfl) ?_) | (refine ASL.light rfl rfl (opFieldAddr rfl fieldA_35_0 rfl rfl) ?_))
  all_goals (refine ASL.store rfl rfl (opStoreAt rfl sizeA_3 rfl rfl hT3 (by first | rfl | exact Own.one (by assumption)) (by exact Nat.le_of_ble_eq_true rfl) ?_); rintro Gs1 hT3 hB1; try (have hT2 := At.near hT2 hB1 (by first | assumption | exact Ne.symm (by assumption))))
  all_goals (refine ASL.done ?_)
  all_goals (refine AWP.seqR rfl ?_)
  all_goals (first | (refine ASL.light rfl rfl (opFieldAddrR rfl fieldA_47_1 rfl rfl) ?_) | (refine ASL.light rfl rfl (opFieldAddr rfl fieldA_47_1 rfl rfl) ?_))
  all_goals (first | (refine ASL.light rfl rfl (opLoadR (v := .int _ _) rfl aggA_3 rfl rfl) ?_) | (refine ASL.light rfl rfl (opLoadOwnI rfl aggA_3 rfl (by assumption) (by first | omega | (simp; omega))) ?_))
  all_goals (first | (refine ASL.light rfl rfl (opFieldAddrR rfl fieldA_35_1 rfl rfl) ?_) | (refine ASL.light rfl rfl (opFieldAddr rfl fieldA_35_1 rfl rfl) ?_))
  all_goals (refine ASL.store rfl rfl (opStoreAt rfl sizeA_3 rfl rfl hT3 (by first | rfl | exact Own.one (by assumption)) (by exact Nat.le_of_ble_eq_true rfl) ?_); rintro Gs2 hT3 hB2; try (have hT2 := At.near hT2 hB2 (by first | assumption | exact Ne.symm (by assumption))))
  all_goals (refine ASL.done ?_)
  all_goals (refine AWP.seqR rfl ?_)
  all_goals (first | (refine ASL.light rfl rfl (opFieldAddrR rfl fieldA_47_2 rfl rfl) ?_) | (refine ASL.light rfl rfl (opFieldAddr rfl fieldA_47_2 rfl rfl) ?_))
  all_goals (first | (refine ASL.light rfl rfl (opLoadR (v := .int _ _) rfl aggA_3 rfl rfl) ?_) | (refine ASL.light rfl rfl (opLoadOwnI rfl aggA_3 rfl (by assumption) (by first | omega | (simp; omega))) ?_))
  all_goals (first | (refine ASL.light rfl rfl (opFieldAddrR rfl fieldA_35_2 rfl rfl) ?_) | (refine ASL.light rfl rfl (opFieldAddr rfl fieldA_35_2 rfl rfl) ?_))
  all_goals (refine ASL.store rfl rfl (opStoreAt rfl sizeA_3 rfl rfl hT3 (by first | rfl | exact Own.one (by assumption)) (by exact Nat.le_of_ble_eq_true rfl) ?_); rintro Gs3 hT3 hB3; try (have hT2 := At.near hT2 hB3 (by first | assumption | exact Ne.symm (by assumption))))
  all_goals (refine ASL.done ?_)
  all_goals (refine AWP.seqR rfl ?_)
  all_goals (first | (refine ASL.light rfl rfl (opFieldAddrR rfl fieldA_47_3 rfl rfl) ?_) | (refine ASL.light rfl rfl (opFieldAddr rfl fieldA_47_3 rfl rfl) ?_))
  all_goals (first | (refine ASL.light rfl rfl (opLoadR (v := .list _ _) rfl aggA_45 rfl rfl) ?_) | (refine ASL.light rfl rfl (opLoadR (v := .slc _ _ _ _) rfl aggA_45 rfl rfl) ?_) | (refine ASL.light rfl rfl (opLoadR (v := .nil) rfl aggA_45 rfl rfl) ?_) | (refine ASL.light rfl rfl (opLoadOwnM rfl aggA_45 rfl (by assumption) (by first | omega | (simp; omega)) (fun _ => rfl)) ?_))
  all_goals (first | (refine ASL.callO rfl rfl rfl rfl call_87 (laws_toEdgeS _ (by omega)) rfl ?_; rintro v15 G15 hO15 hK15 hN15; try (have hF15_2 := At.notin hT2 hN15); try (have hT2 := At.grow hT2 hK15); try (have hF15_3 := At.notin hT3 hN15); try (have hT3 := At.grow hT3 hK15)) | (refine ASL.callOR rfl rfl rfl rfl call_87 (by exact ⟨by first | exact RA.same _ | exact RA.own (by assumption), trivial⟩) (laws_toEdgeS _ (by omega)) (by first | exact Scal.ints _ _ | (simp [flat, cells]; done)) ?_; rintro v15 G15 hO15 hK15 hN15; try (have hF15_2 := At.notin hT2 hN15); try (have hT2 := At.grow hT2 hK15); try (have hF15_3 := At.notin hT3 hN15); try (have hT3 := At.grow hT3 hK15)))
  all_goals (first | (refine ASL.light rfl rfl (opFieldAddrR rfl fieldA_35_3 rfl rfl) ?_) | (refine ASL.light rfl rfl (opFieldAddr rfl fieldA_35_3 rfl rfl) ?_))
  all_goals (refine ASL.store rfl rfl (opStoreAt rfl sizeA_33 rfl rfl hT3 (by first | rfl | exact Own.one (by assumption)) (by exact Nat.le_of_ble_eq_true rfl) ?_); rintro Gs4 hT3 hB4; try (have hT2 := At.near hT2 hB4 (by first | assumption | exact Ne.symm (by assumption))); try (have hO15 := Own.near hO15 hB4 (by assumption)))
  all_goals (refine ASL.done ?_)
  all_goals (refine AWP.seqR rfl ?_)
  all_goals (refine ASL.light rfl rfl (opLoadAtA rfl aggA_35 sizeA_35 rfl hT3 (Nat.le_of_ble_eq_true rfl)) ?_)
  all_goals (refine ASL.store rfl rfl (opStoreAtA rfl sizeA_35 rfl rfl hT2 rfl (by first | rfl | (simp [cells]; done)) (by repeat' (first | exact rfl | exact Own.one (by assumption) | refine allCons ?_ ?_)) (Nat.le_of_ble_eq_true rfl) ?_); rintro Gs5 hT2 hB5; try (have hT3 := At.near hT3 hB5 (by first | assumption | exact Ne.symm (by assumption))); try (have hO15 := Own.near hO15 hB5 (by assumption)))
  all_goals (refine ASL.done ?_)
  all_goals (refine AWP.ret ?_)
  all_goals (repeat with_reducible refine QThen.ret1 ?_)
  all_goals (refine QRet.cell rfl hT2 rfl aggA_35 sizeA_35 ?_; exact ⟨v15, rfl, hO15⟩)

set_option maxRecDepth 10000 in
theorem laws_markEdgeS (v : AV) (xs : List EdgeD) (k : Int) (H : Heap) (hO : Own 4 H v (xs.map edgeA)) (hk : 0 ≤ k ∧ k + 4 * xs.length ≤ 4611686018427387904) : HC Try.prog 93 [v, .int .i64 k] H (fun r G => r = .int .i64 (k + 4 * xs.length) ∧ (∃ ys : List EdgeD, Own 4 G v (ys.map edgeA)) ∧ Beside v H G) := by
  refine HC.enter Try.func93 rfl Try.ntmps93 (by simp) ?_
  all_goals (refine AWP.seqR rfl ?_)
  all_goals (refine ASL.light rfl rfl (opAssign (v := .int _ _) rfl rfl) ?_)
  all_goals (refine ASL.done ?_)
  all_goals (refine AWP.seq ?_)
  all_goals (refine AWP.seqR rfl ?_)
  all_goals (refine ASL.light rfl rfl (opAssign (v := .int _ _) rfl rfl) ?_)
  all_goals (refine ASL.done ?_)
  all_goals (refine AWP.block ?_)
  all_goals (refine AWP.loopL (α := Nat × List EdgeD) (fun s => [(0, v), (1, .int .i64 (k + 4 * s.1)), (5, .int .i64 s.1)]) (fun s G => Own 4 G v (s.2.map edgeA) ∧ Beside v H G) (fun s => xs.length - s.1) (fun s => s.1 ≤ xs.length ∧ s.2.length = xs.length) (0, xs) ⟨by simp, rfl⟩ ⟨rfl, (by simp; rfl), rfl, trivial⟩ ⟨hO, Beside.refl _ _⟩ ?_)
  rintro ⟨i, zs0⟩ G0 ⟨hl0, hz0⟩ ⟨hO0, hB0⟩; dsimp only at hl0 hz0 hO0 ⊢
  all_goals (refine AWP.seq ?_)
  all_goals (refine AWP.seqR rfl ?_)
  all_goals (refine ASL.light rfl rfl (opMove (v := .int _ _) rfl rfl) ?_)
  all_goals (first | (refine ASL.light rfl rfl (opMove (v := v) rfl rfl) ?_) | (refine ASL.light rfl rfl (opMove (v := .list _ _) rfl rfl) ?_) | (refine ASL.light rfl rfl (opMove (v := .slc _ _ _ _) rfl rfl) ?_) | (refine ASL.light rfl rfl (opMove (v := .nil) rfl rfl) ?_))
  all_goals (first | (refine ASL.light rfl rfl (opLenOwn rfl rfl rfl lenT_33 rfl (by assumption)) ?_) | (refine ASL.light rfl rfl (opLenMap rfl rfl rfl lenT_33 rfl) ?_) | (refine ASL.light rfl rfl (opLenOf rfl rfl rfl lenT_33 rfl rfl) ?_))
  all_goals (refine ASL.dec rfl rfl (opInt rfl rfl rfl rfl) ?_ ?_ <;> intro h9)
  all_goals (refine ASL.done ?_)
  all_goals (first
    | (
      refine AWP.condF rfl ?_
      all_goals (refine AWP.exit ?_))
    | (
      refine AWP.condT rfl ?_
      all_goals (refine AWP.skip ?_)
      all_goals (refine AWP.seq ?_)
      all_goals (refine AWP.block ?_)
      all_goals (refine AWP.seqR rfl ?_)
      all_goals (first | (obtain ⟨b, q, c, hv⟩ := hO0.slc (by simp; omega); rw [List.length_map, hz0] at hv; subst hv; refine ASL.light rfl rfl (opMove (v := v) rfl rfl) ?_) | (obtain ⟨b, q, c, hv⟩ := hO0.slc (by simp; omega); rw [List.length_map, hz0] at hv; subst hv; refine ASL.light rfl rfl (opMove (v := .list _ _) rfl rfl) ?_) | (obtain ⟨b, q, c, hv⟩ := hO0.slc (by simp; omega); rw [List.length_map, hz0] at hv; subst hv; refine ASL.light rfl rfl (opMove (v := .slc _ _ _ _) rfl rfl) ?_) | (obtain ⟨b, q, c, hv⟩ := hO0.slc (by simp; omega); rw [List.length_map, hz0] at hv; subst hv; refine ASL.light rfl rfl (opMove (v := .nil) rfl rfl) ?_))
      all_goals (refine ASL.light rfl rfl (opMove (v := .int _ _) rfl rfl) ?_)
      all_goals (refine ASL.light rfl rfl (opMove (v := .int _ _) rfl rfl) ?_)
      all_goals (refine ASL.light rfl rfl (opIndexAddrN rfl rfl rfl elemA_33 sizeA_96 (by omega)) ?_)
      all_goals (refine ASL.light rfl rfl (opFieldAddr rfl fieldA_96_0 rfl rfl) ?_)
      all_goals (refine ASL.store rfl rfl (opStoreFM (f := edgeA) (g := setP _) (i := i) (j := 0) rfl sizeA_3 rfl (by exact rfl) rfl (by assumption) (by first | omega | (simp only [List.length_set]; omega)) (fun e => ⟨_, rfl, Nat.le_of_ble_eq_true rfl, rfl⟩) rfl ?_); rintro Gs1 hOs1 hBs1)
      all_goals (refine ASL.done ?_)
      all_goals (refine AWP.seqR rfl ?_)
      all_goals (refine ASL.light rfl rfl (opMove (v := .int _ _) rfl rfl) ?_)
      all_goals (first | (refine ASL.light rfl rfl (opAdd rfl rfl rfl (by omega)) ?_) | (refine ASL.light rfl rfl (opInt rfl rfl rfl rfl) ?_))
      all_goals (refine ASL.light rfl rfl (opAssign (v := .int _ _) rfl rfl) ?_)
      all_goals (refine ASL.done ?_)
      all_goals (refine AWP.seqR rfl ?_)
      all_goals (first | (refine ASL.light rfl rfl (opMove (v := v) rfl rfl) ?_) | (refine ASL.light rfl rfl (opMove (v := .list _ _) rfl rfl) ?_) | (refine ASL.light rfl rfl (opMove (v := .slc _ _ _ _) rfl rfl) ?_) | (refine ASL.light rfl rfl (opMove (v := .nil) rfl rfl) ?_))
      all_goals (refine ASL.light rfl rfl (opMove (v := .int _ _) rfl rfl) ?_)
      all_goals (refine ASL.light rfl rfl (opMove (v := .int _ _) rfl rfl) ?_)
      all_goals (refine ASL.light rfl rfl (opIndexAddrN rfl rfl rfl elemA_33 sizeA_96 (by omega)) ?_)
      all_goals (refine ASL.light rfl rfl (opFieldAddr rfl fieldA_96_1 rfl rfl) ?_)
      all_goals (refine ASL.store rfl rfl (opStoreFM (f := edgeA) (g := setLt _) (i := i) (j := 1) rfl sizeA_3 rfl (by exact rfl) rfl (by assumption) (by first | omega | (simp only [List.length_set]; omega)) (fun e => ⟨_, rfl, Nat.le_of_ble_eq_true rfl, rfl⟩) rfl ?_); rintro Gs2 hOs2 hBs2)
      all_goals (refine ASL.done ?_)
      all_goals (refine AWP.seqR rfl ?_)
      all_goals (refine ASL.light rfl rfl (opMove (v := .int _ _) rfl rfl) ?_)
      all_goals (first | (refine ASL.light rfl rfl (opAdd rfl rfl rfl (by omega)) ?_) | (refine ASL.light rfl rfl (opInt rfl rfl rfl rfl) ?_))
      all_goals (refine ASL.light rfl rfl (opAssign (v := .int _ _) rfl rfl) ?_)
      all_goals (refine ASL.done ?_)
      all_goals (refine AWP.seqR rfl ?_)
      all_goals (first | (refine ASL.light rfl rfl (opMove (v := v) rfl rfl) ?_) | (refine ASL.light rfl rfl (opMove (v := .list _ _) rfl rfl) ?_) | (refine ASL.light rfl rfl (opMove (v := .slc _ _ _ _) rfl rfl) ?_) | (refine ASL.light rfl rfl (opMove (v := .nil) rfl rfl) ?_))
      all_goals (refine ASL.light rfl rfl (opMove (v := .int _ _) rfl rfl) ?_)
      all_goals (refine ASL.light rfl rfl (opMove (v := .int _ _) rfl rfl) ?_)
      all_goals (refine ASL.light rfl rfl (opIndexAddrN rfl rfl rfl elemA_33 sizeA_96 (by omega)) ?_)
      all_goals (refine ASL.light rfl rfl (opFieldAddr rfl fieldA_96_2 rfl rfl) ?_)
      all_goals (refine ASL.store rfl rfl (opStoreFM (f := edgeA) (g := setQ _) (i := i) (j := 2) rfl sizeA_3 rfl (by exact rfl) rfl (by assumption) (by first | omega | (simp only [List.length_set]; omega)) (fun e => ⟨_, rfl, Nat.le_of_ble_eq_true rfl, rfl⟩) rfl ?_); rintro Gs3 hOs3 hBs3)
      all_goals (refine ASL.done ?_)
      all_goals (refine AWP.seqR rfl ?_)
      all_goals (refine ASL.light rfl rfl (opMove (v := .int _ _) rfl rfl) ?_)
      all_goals (first | (refine ASL.light rfl rfl (opAdd rfl rfl rfl (by omega)) ?_) | (refine ASL.light rfl rfl (opInt rfl rfl rfl rfl) ?_))
      all_goals (refine ASL.light rfl rfl (opAssign (v := .int _ _) rfl rfl) ?_)
      all_goals (refine ASL.done ?_)
      all_goals (refine AWP.seqR rfl ?_)
      all_goals (first | (refine ASL.light rfl rfl (opMove (v := v) rfl rfl) ?_) | (refine ASL.light rfl rfl (opMove (v := .list _ _) rfl rfl) ?_) | (refine ASL.light rfl rfl (opMove (v := .slc _ _ _ _) rfl rfl) ?_) | (refine ASL.light rfl rfl (opMove (v := .nil) rfl rfl) ?_))
      all_goals (refine ASL.light rfl rfl (opMove (v := .int _ _) rfl rfl) ?_)
      all_goals (refine ASL.light rfl rfl (opMove (v := .int _ _) rfl rfl) ?_)
      all_goals (refine ASL.light rfl rfl (opRem rfl rfl rfl (by decide) rfl) ?_)
      all_goals (refine ASL.light rfl rfl (opInt rfl rfl rfl rfl) ?_)
      all_goals (refine ASL.light rfl rfl (opIndexAddrN rfl rfl rfl elemA_33 sizeA_96 (by omega)) ?_)
      all_goals (refine ASL.light rfl rfl (opFieldAddr rfl fieldA_96_3 rfl rfl) ?_)
      all_goals (refine ASL.store rfl rfl (opStoreFM (f := edgeA) (g := setG _) (i := i) (j := 3) rfl sizeA_4 rfl (by exact rfl) rfl (by assumption) (by first | omega | (simp only [List.length_set]; omega)) (fun e => ⟨_, rfl, Nat.le_of_ble_eq_true rfl, rfl⟩) rfl ?_); rintro Gs4 hOs4 hBs4)
      all_goals (refine ASL.done ?_)
      all_goals (refine AWP.lastR rfl ?_)
      all_goals (refine ASL.light rfl rfl (opMove (v := .int _ _) rfl rfl) ?_)
      all_goals (first | (refine ASL.light rfl rfl (opAdd rfl rfl rfl (by omega)) ?_) | (refine ASL.light rfl rfl (opInt rfl rfl rfl rfl) ?_))
      all_goals (refine ASL.light rfl rfl (opAssign (v := .int _ _) rfl rfl) ?_)
      all_goals (refine ASL.done ?_)
      all_goals (refine AWP.lastR rfl ?_)
      all_goals (refine ASL.light rfl rfl (opMove (v := .int _ _) rfl rfl) ?_)
      all_goals (first | (refine ASL.light rfl rfl (opAdd rfl rfl rfl (by omega)) ?_) | (refine ASL.light rfl rfl (opInt rfl rfl rfl rfl) ?_))
      all_goals (refine ASL.light rfl rfl (opAssign (v := .int _ _) rfl rfl) ?_)
      all_goals (refine ASL.done ?_)
      all_goals (exact ⟨(i + 1, _), ⟨by dsimp only; omega, by simp only [List.length_set]; exact hz0⟩, by dsimp only; omega, ⟨rfl, (by simp only [Int.add_assoc]; rfl), rfl, trivial⟩, hOs4, (((hB0.trans hBs1).trans hBs2).trans hBs3).trans hBs4⟩)))
  all_goals (refine AWP.seqR rfl ?_)
  all_goals (refine ASL.light rfl rfl (opMove (v := .int _ _) rfl rfl) ?_)
  all_goals (refine ASL.light rfl rfl (opAssign (v := .int _ _) rfl rfl) ?_)
  all_goals (refine ASL.done ?_)
  all_goals (refine AWP.ret ?_)
  all_goals (repeat with_reducible refine QThen.ret1 ?_)
  all_goals (refine QRet.one rfl rfl ⟨by (rw [show i = xs.length by omega]; rfl), ⟨zs0, hO0⟩, hB0⟩)

set_option maxRecDepth 10000 in
theorem laws_markAuto (v : AV) (a : AutoD) (k : Int) (H : Heap) (hO : Own 4 H v (a.es.map edgeA)) (hk : 0 ≤ k ∧ k + 4 * a.es.length ≤ 4611686018427387904) : HC Try.prog 46 [.agg [.int .i64 a.l, .int .i64 a.n, .int .i64 a.s, v], .int .i64 k] H (fun r G => r = .int .i64 (k + 4 * a.es.length) ∧ (∃ ys : List EdgeD, Own 4 G v (ys.map edgeA)) ∧ Beside v H G) := by
  refine HC.enter Try.func46 rfl Try.ntmps46 (by simp) ?_
  all_goals (refine AWP.seqR rfl ?_)
  all_goals (refine ASL.boxI rfl rfl rfl rfl rfl ?_)
  all_goals (refine ASL.light rfl rfl (opAssign (v := .int _ _) rfl rfl) ?_)
  all_goals (refine ASL.done ?_)
  all_goals (refine AWP.seqR rfl ?_)
  all_goals (first | (refine ASL.light rfl rfl (opFieldAddrR rfl fieldA_35_3 rfl rfl) ?_) | (refine ASL.light rfl rfl (opFieldAddr rfl fieldA_35_3 rfl rfl) ?_))
  all_goals (first | (refine ASL.light rfl rfl (opLoadR (v := v) rfl aggA_33 rfl rfl) ?_) | (refine ASL.light rfl rfl (opLoadR (v := .list _ _) rfl aggA_33 rfl rfl) ?_) | (refine ASL.light rfl rfl (opLoadR (v := .slc _ _ _ _) rfl aggA_33 rfl rfl) ?_) | (refine ASL.light rfl rfl (opLoadR (v := .nil) rfl aggA_33 rfl rfl) ?_) | (refine ASL.light rfl rfl (opLoadOwnM rfl aggA_33 rfl (by assumption) (by first | omega | (simp; omega)) (fun _ => rfl)) ?_))
  all_goals (refine ASL.light rfl rfl (opMove (v := .int _ _) rfl rfl) ?_)
  all_goals (refine ASL.callH rfl rfl rfl rfl call_93 (laws_markEdgeS _ _ _ _ (by assumption) (by omega)) rfl ?_; rintro _ G8 ⟨rfl, ⟨ys8, hO8⟩, hB8⟩)
  all_goals (refine ASL.light rfl rfl (opAssign (v := .int _ _) rfl rfl) ?_)
  all_goals (refine ASL.done ?_)
  all_goals (refine AWP.seqR rfl ?_)
  all_goals (refine ASL.light rfl rfl (opMove (v := .int _ _) rfl rfl) ?_)
  all_goals (refine ASL.light rfl rfl (opAssign (v := .int _ _) rfl rfl) ?_)
  all_goals (refine ASL.done ?_)
  all_goals (refine AWP.ret ?_)
  all_goals (repeat with_reducible refine QThen.ret1 ?_)
  all_goals (exact QRet.one rfl rfl ⟨rfl, ⟨ys8, hO8⟩, hB8⟩)

set_option maxRecDepth 10000 in
theorem laws_FnExactBoxOf (a : AutoD) (w : List Int) (hx : a.es.length ≤ 9223372036854775807) (hy : w.length ≤ 9223372036854775807) : PC Try.prog 9 [autoA a, ints w] (fun v => v = .bool true) := by
  refine PC.enter Try.func9 rfl Try.ntmps9 (by simp) ?_
  by_cases hz : a.es.length ≤ 1048576 <;> by_cases hz2 : w.length ≤ 1048576 <;> have hbl := boxOfF_len a w
  all_goals (refine AWP.seqR rfl ?_)
  all_goals (refine ASL.boxI rfl rfl rfl rfl rfl ?_)
  all_goals (refine ASL.light rfl rfl (opAssign (v := .bool _) rfl rfl) ?_)
  all_goals (refine ASL.done ?_)
  all_goals (refine AWP.seq ?_)
  all_goals (refine AWP.seqR rfl ?_)
  all_goals (first | (refine ASL.light rfl rfl (opMove (v := v33) rfl rfl) ?_) | (refine ASL.light rfl rfl (opMove (v := v28) rfl rfl) ?_) | (refine ASL.light rfl rfl (opMove (v := .list _ _) rfl rfl) ?_) | (refine ASL.light rfl rfl (opMove (v := .slc _ _ _ _) rfl rfl) ?_) | (refine ASL.light rfl rfl (opMove (v := .nil) rfl rfl) ?_))
  all_goals (first | (refine ASL.light rfl rfl (opLenOwn rfl rfl rfl lenT_22 rfl (by assumption)) ?_) | (refine ASL.light rfl rfl (opLenMap rfl rfl rfl lenT_22 rfl) ?_) | (refine ASL.light rfl rfl (opLenOf rfl rfl rfl lenT_22 rfl rfl) ?_))
  all_goals (refine ASL.dec rfl rfl (opInt rfl rfl rfl rfl) ?_ ?_ <;> intro h16)
  all_goals (refine ASL.done ?_)
  all_goals (first
    | (
      refine AWP.condT rfl ?_
      all_goals (refine AWP.seqR rfl ?_)
      all_goals (refine ASL.light rfl rfl (opAssign (v := .bool _) rfl rfl) ?_)
      all_goals (refine ASL.done ?_)
      all_goals (refine AWP.ret ?_)
      all_goals (repeat with_reducible refine QThen.ret1 ?_)
      all_goals (exact QRet.bool rfl rfl rfl (by first | rfl | (exfalso; first | omega | contradiction | (simp_all; done)))))
    | (
      refine AWP.condF rfl ?_
      all_goals (refine AWP.skip ?_)
      all_goals (refine AWP.seqR rfl ?_)
      all_goals (refine ASL.light rfl rfl (opAssign (v := .int _ _) rfl rfl) ?_)
      all_goals (refine ASL.done ?_)
      all_goals (refine AWP.seqR rfl ?_)
      all_goals (refine ASL.light rfl rfl (opLoadRA rfl aggA_47 sizeA_47 rfl (by first | exact Nat.le_of_ble_eq_true rfl | (simp; done)) rfl) ?_)
      all_goals (refine ASL.light rfl rfl (opMove (v := .int _ _) rfl rfl) ?_)
      all_goals (first | (refine ASL.callP rfl rfl rfl rfl call_37 (laws_szAuto_no _ _ (by omega) (by omega)) rfl ?_; rintro _ rfl) | (refine ASL.callP rfl rfl rfl rfl call_37 (laws_szAuto_yes _ _ (by omega) (by omega) (by omega)) rfl ?_; rintro _ rfl))
      all_goals (refine ASL.light rfl rfl (opAssign (v := .int _ _) rfl rfl) ?_)
      all_goals (refine ASL.done ?_)
      all_goals (refine AWP.seq ?_)
      all_goals (refine AWP.seqR rfl ?_)
      all_goals (refine ASL.light rfl rfl (opMove (v := .int _ _) rfl rfl) ?_)
      all_goals (refine ASL.dec rfl rfl (opInt rfl rfl rfl rfl) ?_ ?_ <;> intro h21)
      all_goals (refine ASL.done ?_)
      all_goals (first
        | (
          refine AWP.condT rfl ?_
          all_goals (refine AWP.seqR rfl ?_)
          all_goals (refine ASL.light rfl rfl (opAssign (v := .bool _) rfl rfl) ?_)
          all_goals (refine ASL.done ?_)
          all_goals (refine AWP.ret ?_)
          all_goals (repeat with_reducible refine QThen.ret1 ?_)
          all_goals (exact QRet.bool rfl rfl rfl (by first | rfl | (exfalso; first | omega | contradiction | (simp_all; done)))))
        | (
          refine AWP.condF rfl ?_
          all_goals (refine AWP.skip ?_)
          all_goals (refine AWP.seqR rfl ?_)
          all_goals (refine ASL.light rfl rfl (opLoadRA rfl aggA_47 sizeA_47 rfl (by first | exact Nat.le_of_ble_eq_true rfl | (simp; done)) rfl) ?_)
          all_goals (first | (refine ASL.callP rfl rfl rfl rfl call_40 (laws_toAuto _ (by omega)) rfl ?_; rintro _ rfl) | (refine ASL.callRP rfl rfl rfl rfl call_40 (by exact ⟨by first | exact RA.same _ | exact RA.own (by assumption), trivial⟩) (laws_toAuto _ (by omega)) (by constructor) ?_))
          all_goals (first | (refine ASL.light rfl rfl (opMove (v := v33) rfl rfl) ?_) | (refine ASL.light rfl rfl (opMove (v := v28) rfl rfl) ?_) | (refine ASL.light rfl rfl (opMove (v := .list _ _) rfl rfl) ?_) | (refine ASL.light rfl rfl (opMove (v := .slc _ _ _ _) rfl rfl) ?_) | (refine ASL.light rfl rfl (opMove (v := .nil) rfl rfl) ?_))
          all_goals (refine ASL.callP rfl rfl rfl rfl call_16 (PO.list (laws_toIntS_o _ (by omega))) rfl ?_; rintro _ rfl)
          all_goals (first | (refine ASL.callP rfl rfl rfl rfl call_45 (spec_BoxOf _ _ (by omega) (by omega)) rfl ?_; rintro _ rfl) | (refine ASL.callRP rfl rfl rfl rfl call_45 (by exact ⟨by first | exact RA.same _ | exact RA.own (by assumption), by first | exact RA.same _ | exact RA.own (by assumption), trivial⟩) (spec_BoxOf _ _ (by omega) (by omega)) (by constructor) ?_))
          all_goals (first | (refine ASL.light rfl rfl (opAssign (v := v33) rfl rfl) ?_) | (refine ASL.light rfl rfl (opAssign (v := v28) rfl rfl) ?_) | (refine ASL.light rfl rfl (opAssign (v := .list _ _) rfl rfl) ?_) | (refine ASL.light rfl rfl (opAssign (v := .slc _ _ _ _) rfl rfl) ?_) | (refine ASL.light rfl rfl (opAssign (v := .nil) rfl rfl) ?_))
          all_goals (refine ASL.done ?_)
          all_goals (refine AWP.seqR rfl ?_)
          all_goals (refine ASL.light rfl rfl (opLoadRA rfl aggA_47 sizeA_47 rfl (by first | exact Nat.le_of_ble_eq_true rfl | (simp; done)) rfl) ?_)
          all_goals (refine ASL.callH rfl rfl rfl rfl call_40 ((laws_toAuto_o a (by omega)).frame _) rfl ?_; rintro _ G28 ⟨Gx28, ⟨v28, rfl, hOx28⟩, hJ28⟩; obtain ⟨hO28, hK28, hN28⟩ := hOx28.join hJ28)
          all_goals (refine ASL.heavy1 rfl rfl (opAllocAt rfl zeroA_35 ?_); rintro b7 G7 hT7 hK7 hN7; try (have hF28_7 := Own.notin hO28 hN7); try (have hO28 := Own.grow hO28 hK7))
          all_goals (refine ASL.store rfl rfl (opStoreAtA rfl sizeA_35 rfl rfl hT7 rfl (by first | rfl | (simp [cells]; done)) (by repeat' (first | exact rfl | exact Own.one (by assumption) | refine allCons ?_ ?_)) (Nat.le_of_ble_eq_true rfl) ?_); rintro Gs1 hT7 hB1; try (have hO28 := Own.near hO28 hB1 (by assumption)))
          all_goals (refine ASL.done ?_)
          all_goals (refine AWP.seqR rfl ?_)
          all_goals (first | (refine ASL.light rfl rfl (opMove (v := v33) rfl rfl) ?_) | (refine ASL.light rfl rfl (opMove (v := v28) rfl rfl) ?_) | (refine ASL.light rfl rfl (opMove (v := .list _ _) rfl rfl) ?_) | (refine ASL.light rfl rfl (opMove (v := .slc _ _ _ _) rfl rfl) ?_) | (refine ASL.light rfl rfl (opMove (v := .nil) rfl rfl) ?_))
          all_goals (first | (refine ASL.callO rfl rfl rfl rfl call_16 (laws_toIntS_o _ (by omega)) rfl ?_; rintro v30 G30 hO30 hK30 hN30; try (have hA30_28 := Own.apart hO28 hN30); try (have hO28 := Own.grow hO28 hK30); try (have hF30_7 := At.notin hT7 hN30); try (have hT7 := At.grow hT7 hK30)) | (refine ASL.callOR rfl rfl rfl rfl call_16 (by exact ⟨by first | exact RA.same _ | exact RA.own (by assumption), trivial⟩) (laws_toIntS_o _ (by omega)) (by first | exact Scal.ints _ _ | (simp [flat, cells]; done)) ?_; rintro v30 G30 hO30 hK30 hN30; try (have hA30_28 := Own.apart hO28 hN30); try (have hO28 := Own.grow hO28 hK30); try (have hF30_7 := At.notin hT7 hN30); try (have hT7 := At.grow hT7 hK30)))
          all_goals (first | (refine ASL.light rfl rfl (opAssign (v := v30) rfl rfl) ?_) | (refine ASL.light rfl rfl (opAssign (v := v33) rfl rfl) ?_) | (refine ASL.light rfl rfl (opAssign (v := v28) rfl rfl) ?_) | (refine ASL.light rfl rfl (opAssign (v := .list _ _) rfl rfl) ?_) | (refine ASL.light rfl rfl (opAssign (v := .slc _ _ _ _) rfl rfl) ?_) | (refine ASL.light rfl rfl (opAssign (v := .nil) rfl rfl) ?_))
          all_goals (refine ASL.done ?_)
          all_goals (refine AWP.seqR rfl ?_)
          all_goals (refine ASL.light rfl rfl (opLoadAtA rfl aggA_35 sizeA_35 rfl hT7 (Nat.le_of_ble_eq_true rfl)) ?_)
          all_goals (first | (refine ASL.light rfl rfl (opMove (v := v30) rfl rfl) ?_) | (refine ASL.light rfl rfl (opMove (v := v33) rfl rfl) ?_) | (refine ASL.light rfl rfl (opMove (v := v28) rfl rfl) ?_) | (refine ASL.light rfl rfl (opMove (v := .list _ _) rfl rfl) ?_) | (refine ASL.light rfl rfl (opMove (v := .slc _ _ _ _) rfl rfl) ?_) | (refine ASL.light rfl rfl (opMove (v := .nil) rfl rfl) ?_))
          all_goals (refine ASL.callOR rfl rfl rfl rfl call_30 (by exact ⟨RA.autoA (a := a) hO28, by first | exact RA.same _ | exact RA.own (by assumption), trivial⟩) (impl_BoxOf a w (by omega) (by omega)) (Scal.ints _ _) ?_; rintro v33 G33 hO33 hK33 hN33; try (have hA33_28 := Own.apart hO28 hN33); try (have hO28 := Own.grow hO28 hK33); try (have hA33_30 := Own.apart hO30 hN33); try (have hO30 := Own.grow hO30 hK33); try (have hF33_7 := At.notin hT7 hN33); try (have hT7 := At.grow hT7 hK33))
          all_goals (first | (refine ASL.light rfl rfl (opAssign (v := v30) rfl rfl) ?_) | (refine ASL.light rfl rfl (opAssign (v := v33) rfl rfl) ?_) | (refine ASL.light rfl rfl (opAssign (v := v28) rfl rfl) ?_) | (refine ASL.light rfl rfl (opAssign (v := .list _ _) rfl rfl) ?_) | (refine ASL.light rfl rfl (opAssign (v := .slc _ _ _ _) rfl rfl) ?_) | (refine ASL.light rfl rfl (opAssign (v := .nil) rfl rfl) ?_))
          all_goals (refine ASL.done ?_)
          all_goals (refine AWP.seq ?_)
          all_goals (refine AWP.seqR rfl ?_)
          all_goals (first | (refine ASL.light rfl rfl (opMove (v := v30) rfl rfl) ?_) | (refine ASL.light rfl rfl (opMove (v := v33) rfl rfl) ?_) | (refine ASL.light rfl rfl (opMove (v := v28) rfl rfl) ?_) | (refine ASL.light rfl rfl (opMove (v := .list _ _) rfl rfl) ?_) | (refine ASL.light rfl rfl (opMove (v := .slc _ _ _ _) rfl rfl) ?_) | (refine ASL.light rfl rfl (opMove (v := .nil) rfl rfl) ?_))
          all_goals (first | (refine ASL.light rfl rfl (opMove (v := v30) rfl rfl) ?_) | (refine ASL.light rfl rfl (opMove (v := v33) rfl rfl) ?_) | (refine ASL.light rfl rfl (opMove (v := v28) rfl rfl) ?_) | (refine ASL.light rfl rfl (opMove (v := .list _ _) rfl rfl) ?_) | (refine ASL.light rfl rfl (opMove (v := .slc _ _ _ _) rfl rfl) ?_) | (refine ASL.light rfl rfl (opMove (v := .nil) rfl rfl) ?_))
          all_goals (first | (refine ASL.callD rfl rfl rfl rfl call_18 (laws_eqIntS _ _ (by omega)) rfl ?_ ?_ <;> intro h36) | (refine ASL.callRD rfl rfl rfl rfl call_18 (by exact ⟨by first | exact RA.same _ | exact RA.own (by assumption), by first | exact RA.same _ | exact RA.own (by assumption), trivial⟩) (laws_eqIntS _ _ (by omega)) ?_ ?_ <;> intro h36))
          all_goals (refine ASL.light rfl rfl (opNot rfl rfl) ?_)
          all_goals (refine ASL.done ?_)
          all_goals (first
            | (
              refine AWP.condT rfl ?_
              all_goals (refine AWP.seqR rfl ?_)
              all_goals (refine ASL.light rfl rfl (opAssign (v := .bool _) rfl rfl) ?_)
              all_goals (refine ASL.done ?_)
              all_goals (refine AWP.ret ?_)
              all_goals (repeat with_reducible refine QThen.ret1 ?_)
              all_goals (exact QRet.bool rfl rfl rfl (by first | rfl | (exfalso; first | omega | contradiction | (simp_all; done)))))
            | (
              refine AWP.condF rfl ?_
              all_goals (refine AWP.skip ?_)
              all_goals (refine AWP.seq ?_)
              all_goals (refine AWP.seqD [(0, false), (1, false), (2, false), (3, true), (4, false)] mixed (by kernel_rfl) rfl ?_)
              all_goals (refine ARL.light rfl rfl rfl (opLoadAtA rfl aggA_35 sizeA_35 rfl hT7 (Nat.le_of_ble_eq_true rfl)) (by intro b_ hb_; rw [List.mem_singleton.mp hb_]; exact At.alive hT7) ?_)
              all_goals (refine ARL.light0 rfl rfl rfl (opLoadRA rfl aggA_47 sizeA_47 rfl (by first | exact Nat.le_of_ble_eq_true rfl | (simp; done)) rfl) ?_)
              all_goals (first | (refine ARL.callP rfl rfl rfl rfl call_40 (laws_toAuto _ (by omega)) rfl ?_; rintro _ rfl) | (refine ARL.callRP rfl rfl rfl rfl rfl call_40 (by exact ⟨by first | exact RA.same _ | exact RA.own (by assumption), trivial⟩) (laws_toAuto _ (by omega)) (by constructor) ?_))
              all_goals (refine ARL.callRD rfl rfl rfl rfl rfl call_43 (by exact ⟨RA.autoA (a := a) hO28, by first | exact RA.same _ | exact RA.own (by assumption), trivial⟩) (laws_eqAuto a a (by omega)) ?_ ?_ <;> intro h41)
              all_goals (refine ARL.light0 rfl rfl rfl (opNot rfl rfl) ?_)
              all_goals (refine ARL.done ?_)
              all_goals (first
                | (
                  refine AWP.condT rfl ?_
                  all_goals (refine AWP.seqR rfl ?_)
                  all_goals (refine ASL.light rfl rfl (opAssign (v := .bool _) rfl rfl) ?_)
                  all_goals (refine ASL.done ?_)
                  all_goals (refine AWP.ret ?_)
                  all_goals (repeat with_reducible refine QThen.ret1 ?_)
                  all_goals (exact QRet.bool rfl rfl rfl (by first | rfl | (exfalso; first | omega | contradiction | (simp_all; done)))))
                | (
                  refine AWP.condF rfl ?_
                  all_goals (refine AWP.skip ?_)
                  all_goals (refine AWP.seq ?_)
                  all_goals (refine AWP.seqR rfl ?_)
                  all_goals (first | (refine ASL.light rfl rfl (opMove (v := v30) rfl rfl) ?_) | (refine ASL.light rfl rfl (opMove (v := v33) rfl rfl) ?_) | (refine ASL.light rfl rfl (opMove (v := v28) rfl rfl) ?_) | (refine ASL.light rfl rfl (opMove (v := .list _ _) rfl rfl) ?_) | (refine ASL.light rfl rfl (opMove (v := .slc _ _ _ _) rfl rfl) ?_) | (refine ASL.light rfl rfl (opMove (v := .nil) rfl rfl) ?_))
                  all_goals (first | (refine ASL.light rfl rfl (opMove (v := v30) rfl rfl) ?_) | (refine ASL.light rfl rfl (opMove (v := v33) rfl rfl) ?_) | (refine ASL.light rfl rfl (opMove (v := v28) rfl rfl) ?_) | (refine ASL.light rfl rfl (opMove (v := .list _ _) rfl rfl) ?_) | (refine ASL.light rfl rfl (opMove (v := .slc _ _ _ _) rfl rfl) ?_) | (refine ASL.light rfl rfl (opMove (v := .nil) rfl rfl) ?_))
                  all_goals (refine ASL.callP rfl rfl rfl rfl call_16 (PO.list (laws_toIntS_o _ (by omega))) rfl ?_; rintro _ rfl)
                  all_goals (first | (refine ASL.callD rfl rfl rfl rfl call_18 (laws_eqIntS _ _ (by omega)) rfl ?_ ?_ <;> intro h46) | (refine ASL.callRD rfl rfl rfl rfl call_18 (by exact ⟨by first | exact RA.same _ | exact RA.own (by assumption), by first | exact RA.same _ | exact RA.own (by assumption), trivial⟩) (laws_eqIntS _ _ (by omega)) ?_ ?_ <;> intro h46))
                  all_goals (refine ASL.light rfl rfl (opNot rfl rfl) ?_)
                  all_goals (refine ASL.done ?_)
                  all_goals (first
                    | (
                      refine AWP.condT rfl ?_
                      all_goals (refine AWP.seqR rfl ?_)
                      all_goals (refine ASL.light rfl rfl (opAssign (v := .bool _) rfl rfl) ?_)
                      all_goals (refine ASL.done ?_)
                      all_goals (refine AWP.ret ?_)
                      all_goals (repeat with_reducible refine QThen.ret1 ?_)
                      all_goals (exact QRet.bool rfl rfl rfl (by first | rfl | (exfalso; first | omega | contradiction | (simp_all; done)))))
                    | (
                      refine AWP.condF rfl ?_
                      all_goals (refine AWP.skip ?_)
                      all_goals (refine AWP.seqR rfl ?_)
                      all_goals (refine ASL.light rfl rfl (opAssign (v := .int _ _) rfl rfl) ?_)
                      all_goals (refine ASL.done ?_)
                      all_goals (refine AWP.seqR rfl ?_)
                      all_goals (refine ASL.light rfl rfl (opLoadAtA rfl aggA_35 sizeA_35 rfl hT7 (Nat.le_of_ble_eq_true rfl)) ?_)
                      all_goals (refine ASL.light rfl rfl (opMove (v := .int _ _) rfl rfl) ?_)
                      all_goals (refine ASL.callH rfl rfl rfl rfl call_46 (laws_markAuto _ a _ _ hO28 (by omega)) rfl ?_; rintro _ G50 ⟨rfl, ⟨ys50, hO50⟩, hB50⟩; try (first | (have hO28 : Own _ G50 v28 _ := hO50) | (have hO28 := Own.beside hO28 hB50 (by first | assumption | exact Apart.symm (by assumption)))); try (first | (have hO30 : Own _ G50 v30 _ := hO50) | (have hO30 := Own.beside hO30 hB50 (by first | assumption | exact Apart.symm (by assumption)))); try (first | (have hO33 : Own _ G50 v33 _ := hO50) | (have hO33 := Own.beside hO33 hB50 (by first | assumption | exact Apart.symm (by assumption)))); try (have hT7 := At.beside hT7 hB50 (by assumption)))
                      all_goals (refine ASL.light rfl rfl (opAssign (v := .int _ _) rfl rfl) ?_)
                      all_goals (refine ASL.done ?_)
                      all_goals (refine AWP.seqR rfl ?_)
                      all_goals (first | (refine ASL.light rfl rfl (opMove (v := v30) rfl rfl) ?_) | (refine ASL.light rfl rfl (opMove (v := v33) rfl rfl) ?_) | (refine ASL.light rfl rfl (opMove (v := v28) rfl rfl) ?_) | (refine ASL.light rfl rfl (opMove (v := .list _ _) rfl rfl) ?_) | (refine ASL.light rfl rfl (opMove (v := .slc _ _ _ _) rfl rfl) ?_) | (refine ASL.light rfl rfl (opMove (v := .nil) rfl rfl) ?_))
                      all_goals (refine ASL.light rfl rfl (opMove (v := .int _ _) rfl rfl) ?_)
                      all_goals (refine ASL.callH rfl rfl rfl rfl call_21 (laws_markIntS _ _ _ _ (by assumption) (by omega)) rfl ?_; rintro _ G53 ⟨rfl, hO53, hB53⟩; try (first | (have hO28 : Own _ G53 v28 _ := hO53) | (have hO28 := Own.beside hO28 hB53 (by first | assumption | exact Apart.symm (by assumption)))); try (first | (have hO30 : Own _ G53 v30 _ := hO53) | (have hO30 := Own.beside hO30 hB53 (by first | assumption | exact Apart.symm (by assumption)))); try (first | (have hO33 : Own _ G53 v33 _ := hO53) | (have hO33 := Own.beside hO33 hB53 (by first | assumption | exact Apart.symm (by assumption)))); try (have hT7 := At.beside hT7 hB53 (by assumption)))
                      all_goals (refine ASL.light rfl rfl (opAssign (v := .int _ _) rfl rfl) ?_)
                      all_goals (refine ASL.done ?_)
                      all_goals (refine AWP.seq ?_)
                      all_goals (refine AWP.seqR rfl ?_)
                      all_goals (refine ASL.light rfl rfl (opMove (v := .int _ _) rfl rfl) ?_)
                      all_goals (refine ASL.dec rfl rfl (opInt rfl rfl rfl rfl) ?_ ?_ <;> intro h55)
                      all_goals (refine ASL.light rfl rfl (opMove (v := .bool _) rfl rfl) ?_)
                      all_goals (first | (refine ASL.off rfl rfl ?_) | (refine ASL.light rfl rfl (opMove (v := v30) rfl rfl) ?_) | (refine ASL.light rfl rfl (opMove (v := v33) rfl rfl) ?_) | (refine ASL.light rfl rfl (opMove (v := v28) rfl rfl) ?_) | (refine ASL.light rfl rfl (opMove (v := .list _ _) rfl rfl) ?_) | (refine ASL.light rfl rfl (opMove (v := .slc _ _ _ _) rfl rfl) ?_) | (refine ASL.light rfl rfl (opMove (v := .nil) rfl rfl) ?_))
                      all_goals (first | (refine ASL.off rfl rfl ?_) | (refine ASL.light rfl rfl (opMove (v := v30) rfl rfl) ?_) | (refine ASL.light rfl rfl (opMove (v := v33) rfl rfl) ?_) | (refine ASL.light rfl rfl (opMove (v := v28) rfl rfl) ?_) | (refine ASL.light rfl rfl (opMove (v := .list _ _) rfl rfl) ?_) | (refine ASL.light rfl rfl (opMove (v := .slc _ _ _ _) rfl rfl) ?_) | (refine ASL.light rfl rfl (opMove (v := .nil) rfl rfl) ?_))
                      all_goals (first | (refine ASL.off rfl rfl ?_) | (refine ASL.callD rfl rfl rfl rfl call_18 (laws_eqIntS _ _ (by omega)) rfl ?_ ?_ <;> intro h59) | (refine ASL.callRD rfl rfl rfl rfl call_18 (by exact ⟨by first | exact RA.same _ | exact RA.own (by assumption), by first | exact RA.same _ | exact RA.own (by assumption), trivial⟩) (laws_eqIntS _ _ (by omega)) ?_ ?_ <;> intro h59))
                      all_goals (first | (refine ASL.off rfl rfl ?_) | (refine ASL.light rfl rfl (opNot rfl rfl) ?_))
                      all_goals (refine ASL.light rfl rfl (opPick (v := .bool _) rfl rfl rfl) ?_)
                      all_goals (refine ASL.done ?_)
                      all_goals (first
                        | (
                          refine AWP.condT rfl ?_
                          all_goals (refine AWP.seqR rfl ?_)
                          all_goals (refine ASL.light rfl rfl (opAssign (v := .bool _) rfl rfl) ?_)
                          all_goals (refine ASL.done ?_)
                          all_goals (refine AWP.ret ?_)
                          all_goals (repeat with_reducible refine QThen.ret1 ?_)
                          all_goals (exact QRet.bool rfl rfl rfl (by first | rfl | (exfalso; first | omega | contradiction | (simp_all; done)))))
                        | (
                          refine AWP.condF rfl ?_
                          all_goals (refine AWP.skip ?_)
                          all_goals (refine AWP.seqR rfl ?_)
                          all_goals (refine ASL.light rfl rfl (opAssign (v := .int _ _) rfl rfl) ?_)
                          all_goals (refine ASL.done ?_)
                          all_goals (refine AWP.seqR rfl ?_)
                          all_goals (first | (refine ASL.light rfl rfl (opMove (v := v30) rfl rfl) ?_) | (refine ASL.light rfl rfl (opMove (v := v33) rfl rfl) ?_) | (refine ASL.light rfl rfl (opMove (v := v28) rfl rfl) ?_) | (refine ASL.light rfl rfl (opMove (v := .list _ _) rfl rfl) ?_) | (refine ASL.light rfl rfl (opMove (v := .slc _ _ _ _) rfl rfl) ?_) | (refine ASL.light rfl rfl (opMove (v := .nil) rfl rfl) ?_))
                          all_goals (refine ASL.light rfl rfl (opMove (v := .int _ _) rfl rfl) ?_)
                          all_goals (refine ASL.callH rfl rfl rfl rfl call_21 (laws_markIntS _ _ _ _ (by assumption) (by omega)) rfl ?_; rintro _ G64 ⟨rfl, hO64, hB64⟩; try (first | (have hO28 : Own _ G64 v28 _ := hO64) | (have hO28 := Own.beside hO28 hB64 (by first | assumption | exact Apart.symm (by assumption)))); try (first | (have hO30 : Own _ G64 v30 _ := hO64) | (have hO30 := Own.beside hO30 hB64 (by first | assumption | exact Apart.symm (by assumption)))); try (first | (have hO33 : Own _ G64 v33 _ := hO64) | (have hO33 := Own.beside hO33 hB64 (by first | assumption | exact Apart.symm (by assumption)))); try (have hT7 := At.beside hT7 hB64 (by assumption)))
                          all_goals (refine ASL.light rfl rfl (opAssign (v := .int _ _) rfl rfl) ?_)
                          all_goals (refine ASL.done ?_)
                          all_goals (refine AWP.seqR rfl ?_)
                          all_goals (refine ASL.light rfl rfl (opAssign (v := .int _ _) rfl rfl) ?_)
                          all_goals (refine ASL.done ?_)
                          all_goals (refine AWP.seqR rfl ?_)
                          all_goals (first | (refine ASL.light rfl rfl (opMove (v := v30) rfl rfl) ?_) | (refine ASL.light rfl rfl (opMove (v := v33) rfl rfl) ?_) | (refine ASL.light rfl rfl (opMove (v := v28) rfl rfl) ?_) | (refine ASL.light rfl rfl (opMove (v := .list _ _) rfl rfl) ?_) | (refine ASL.light rfl rfl (opMove (v := .slc _ _ _ _) rfl rfl) ?_) | (refine ASL.light rfl rfl (opMove (v := .nil) rfl rfl) ?_))
                          all_goals (refine ASL.light rfl rfl (opMove (v := .int _ _) rfl rfl) ?_)
                          all_goals (first | (refine ASL.callP rfl rfl rfl rfl call_22 (laws_heldIntS _ _ (by omega)) rfl ?_; rintro _ rfl) | (refine ASL.callRP rfl rfl rfl rfl call_22 (by exact ⟨by first | exact RA.same _ | exact RA.own (by assumption), by first | exact RA.same _ | exact RA.own (by assumption), trivial⟩) (laws_heldIntS _ _ (by omega)) (by constructor) ?_))
                          all_goals (refine ASL.light rfl rfl (opAssign (v := .int _ _) rfl rfl) ?_)
                          all_goals (refine ASL.done ?_)
                          all_goals (refine AWP.seq ?_)
                          all_goals (refine AWP.seqR rfl ?_)
                          all_goals (refine ASL.light rfl rfl (opMove (v := .int _ _) rfl rfl) ?_)
                          all_goals (refine ASL.dec rfl rfl (opInt rfl rfl rfl rfl) ?_ ?_ <;> intro h69)
                          all_goals (refine ASL.done ?_)
                          all_goals (first
                            | (
                              refine AWP.condT rfl ?_
                              all_goals (refine AWP.seqR rfl ?_)
                              all_goals (refine ASL.light rfl rfl (opAssign (v := .bool _) rfl rfl) ?_)
                              all_goals (refine ASL.done ?_)
                              all_goals (refine AWP.ret ?_)
                              all_goals (repeat with_reducible refine QThen.ret1 ?_)
                              all_goals (exact QRet.bool rfl rfl rfl (by first | rfl | (exfalso; first | omega | contradiction | (simp_all; done)))))
                            | (
                              refine AWP.condF rfl ?_
                              all_goals (refine AWP.skip ?_)
                              all_goals (refine AWP.seq ?_)
                              all_goals (refine AWP.seqR rfl ?_)
                              all_goals (refine ASL.light rfl rfl (opMove (v := .int _ _) rfl rfl) ?_)
                              all_goals (refine ASL.light rfl rfl (opMove (v := .int _ _) rfl rfl) ?_)
                              all_goals (refine ASL.dec rfl rfl (opInt rfl rfl rfl rfl) ?_ ?_ <;> intro h72)
                              all_goals (refine ASL.done ?_)
                              all_goals (first
                                | (
                                  refine AWP.condT rfl ?_
                                  all_goals (refine AWP.seqR rfl ?_)
                                  all_goals (refine ASL.light rfl rfl (opAssign (v := .bool _) rfl rfl) ?_)
                                  all_goals (refine ASL.done ?_)
                                  all_goals (refine AWP.ret ?_)
                                  all_goals (repeat with_reducible refine QThen.ret1 ?_)
                                  all_goals (exact QRet.bool rfl rfl rfl (by first | rfl | (exfalso; first | omega | contradiction | (simp_all; done)))))
                                | (
                                  refine AWP.condF rfl ?_
                                  all_goals (refine AWP.skip ?_)
                                  all_goals (refine AWP.seqR rfl ?_)
                                  all_goals (refine ASL.light rfl rfl (opLoadRA rfl aggA_47 sizeA_47 rfl (by first | exact Nat.le_of_ble_eq_true rfl | (simp; done)) rfl) ?_)
                                  all_goals (first | (refine ASL.callP rfl rfl rfl rfl call_40 (laws_toAuto _ (by omega)) rfl ?_; rintro _ rfl) | (refine ASL.callRP rfl rfl rfl rfl call_40 (by exact ⟨by first | exact RA.same _ | exact RA.own (by assumption), trivial⟩) (laws_toAuto _ (by omega)) (by constructor) ?_))
                                  all_goals (first | (refine ASL.light rfl rfl (opMove (v := v30) rfl rfl) ?_) | (refine ASL.light rfl rfl (opMove (v := v33) rfl rfl) ?_) | (refine ASL.light rfl rfl (opMove (v := v28) rfl rfl) ?_) | (refine ASL.light rfl rfl (opMove (v := .list _ _) rfl rfl) ?_) | (refine ASL.light rfl rfl (opMove (v := .slc _ _ _ _) rfl rfl) ?_) | (refine ASL.light rfl rfl (opMove (v := .nil) rfl rfl) ?_))
                                  all_goals (refine ASL.callP rfl rfl rfl rfl call_16 (PO.list (laws_toIntS_o _ (by omega))) rfl ?_; rintro _ rfl)
                                  all_goals (refine ASL.callP rfl rfl rfl rfl call_30 (PO.list (impl_BoxOf _ _ (by omega) (by omega))) rfl ?_; rintro _ rfl)
                                  all_goals (first | (refine ASL.light rfl rfl (opAssign (v := v30) rfl rfl) ?_) | (refine ASL.light rfl rfl (opAssign (v := v33) rfl rfl) ?_) | (refine ASL.light rfl rfl (opAssign (v := v28) rfl rfl) ?_) | (refine ASL.light rfl rfl (opAssign (v := .list _ _) rfl rfl) ?_) | (refine ASL.light rfl rfl (opAssign (v := .slc _ _ _ _) rfl rfl) ?_) | (refine ASL.light rfl rfl (opAssign (v := .nil) rfl rfl) ?_))
                                  all_goals (refine ASL.done ?_)
                                  all_goals (refine AWP.seq ?_)
                                  all_goals (refine AWP.seqR rfl ?_)
                                  all_goals (first | (refine ASL.light rfl rfl (opMove (v := v30) rfl rfl) ?_) | (refine ASL.light rfl rfl (opMove (v := v33) rfl rfl) ?_) | (refine ASL.light rfl rfl (opMove (v := v28) rfl rfl) ?_) | (refine ASL.light rfl rfl (opMove (v := .list _ _) rfl rfl) ?_) | (refine ASL.light rfl rfl (opMove (v := .slc _ _ _ _) rfl rfl) ?_) | (refine ASL.light rfl rfl (opMove (v := .nil) rfl rfl) ?_))
                                  all_goals (first | (refine ASL.light rfl rfl (opMove (v := v30) rfl rfl) ?_) | (refine ASL.light rfl rfl (opMove (v := v33) rfl rfl) ?_) | (refine ASL.light rfl rfl (opMove (v := v28) rfl rfl) ?_) | (refine ASL.light rfl rfl (opMove (v := .list _ _) rfl rfl) ?_) | (refine ASL.light rfl rfl (opMove (v := .slc _ _ _ _) rfl rfl) ?_) | (refine ASL.light rfl rfl (opMove (v := .nil) rfl rfl) ?_))
                                  all_goals (first | (refine ASL.callD rfl rfl rfl rfl call_18 (laws_eqIntS _ _ (by omega)) rfl ?_ ?_ <;> intro h80) | (refine ASL.callRD rfl rfl rfl rfl call_18 (by exact ⟨by first | exact RA.same _ | exact RA.own (by assumption), by first | exact RA.same _ | exact RA.own (by assumption), trivial⟩) (laws_eqIntS _ _ (by omega)) ?_ ?_ <;> intro h80))
                                  all_goals (refine ASL.light rfl rfl (opNot rfl rfl) ?_)
                                  all_goals (refine ASL.done ?_)
                                  all_goals (first
                                    | (
                                      refine AWP.condT rfl ?_
                                      all_goals (refine AWP.seqR rfl ?_)
                                      all_goals (refine ASL.light rfl rfl (opAssign (v := .bool _) rfl rfl) ?_)
                                      all_goals (refine ASL.done ?_)
                                      all_goals (refine AWP.ret ?_)
                                      all_goals (repeat with_reducible refine QThen.ret1 ?_)
                                      all_goals (exact QRet.bool rfl rfl rfl (by first | rfl | (exfalso; first | omega | contradiction | (simp_all; done)))))
                                    | (
                                      refine AWP.condF rfl ?_
                                      all_goals (refine AWP.skip ?_)
                                      all_goals (refine AWP.seqR rfl ?_)
                                      all_goals (refine ASL.light rfl rfl (opAssign (v := .int _ _) rfl rfl) ?_)
                                      all_goals (refine ASL.done ?_)
                                      all_goals (refine AWP.seqR rfl ?_)
                                      all_goals (first | (refine ASL.light rfl rfl (opMove (v := v30) rfl rfl) ?_) | (refine ASL.light rfl rfl (opMove (v := v33) rfl rfl) ?_) | (refine ASL.light rfl rfl (opMove (v := v28) rfl rfl) ?_) | (refine ASL.light rfl rfl (opMove (v := .list _ _) rfl rfl) ?_) | (refine ASL.light rfl rfl (opMove (v := .slc _ _ _ _) rfl rfl) ?_) | (refine ASL.light rfl rfl (opMove (v := .nil) rfl rfl) ?_))
                                      all_goals (refine ASL.light rfl rfl (opMove (v := .int _ _) rfl rfl) ?_)
                                      all_goals (first | (refine ASL.callP rfl rfl rfl rfl call_22 (laws_heldIntS _ _ (by omega)) rfl ?_; rintro _ rfl) | (refine ASL.callRP rfl rfl rfl rfl call_22 (by exact ⟨by first | exact RA.same _ | exact RA.own (by assumption), by first | exact RA.same _ | exact RA.own (by assumption), trivial⟩) (laws_heldIntS _ _ (by omega)) (by constructor) ?_))
                                      all_goals (refine ASL.light rfl rfl (opAssign (v := .int _ _) rfl rfl) ?_)
                                      all_goals (refine ASL.done ?_)
                                      all_goals (refine AWP.seq ?_)
                                      all_goals (refine AWP.seqR rfl ?_)
                                      all_goals (refine ASL.light rfl rfl (opMove (v := .int _ _) rfl rfl) ?_)
                                      all_goals (refine ASL.dec rfl rfl (opInt rfl rfl rfl rfl) ?_ ?_ <;> intro h86)
                                      all_goals (refine ASL.done ?_)
                                      all_goals (first
                                        | (
                                          refine AWP.condT rfl ?_
                                          all_goals (refine AWP.seqR rfl ?_)
                                          all_goals (refine ASL.light rfl rfl (opAssign (v := .bool _) rfl rfl) ?_)
                                          all_goals (refine ASL.done ?_)
                                          all_goals (refine AWP.ret ?_)
                                          all_goals (repeat with_reducible refine QThen.ret1 ?_)
                                          all_goals (exact QRet.bool rfl rfl rfl (by first | rfl | (exfalso; first | omega | contradiction | (simp_all; done)))))
                                        | (
                                          refine AWP.condF rfl ?_
                                          all_goals (refine AWP.skip ?_)
                                          all_goals (refine AWP.seq ?_)
                                          all_goals (refine AWP.seqR rfl ?_)
                                          all_goals (refine ASL.light rfl rfl (opMove (v := .int _ _) rfl rfl) ?_)
                                          all_goals (refine ASL.light rfl rfl (opMove (v := .int _ _) rfl rfl) ?_)
                                          all_goals (refine ASL.dec rfl rfl (opInt rfl rfl rfl rfl) ?_ ?_ <;> intro h89)
                                          all_goals (refine ASL.done ?_)
                                          all_goals (first
                                            | (
                                              refine AWP.condT rfl ?_
                                              all_goals (refine AWP.seqR rfl ?_)
                                              all_goals (refine ASL.light rfl rfl (opAssign (v := .bool _) rfl rfl) ?_)
                                              all_goals (refine ASL.done ?_)
                                              all_goals (refine AWP.ret ?_)
                                              all_goals (repeat with_reducible refine QThen.ret1 ?_)
                                              all_goals (exact QRet.bool rfl rfl rfl (by first | rfl | (exfalso; first | omega | contradiction | (simp_all; done)))))
                                            | (
                                              refine AWP.condF rfl ?_
                                              all_goals (refine AWP.skip ?_)
                                              all_goals (refine AWP.seqR rfl ?_)
                                              all_goals (refine ASL.light rfl rfl (opAssign (v := .bool _) rfl rfl) ?_)
                                              all_goals (refine ASL.done ?_)
                                              all_goals (refine AWP.ret ?_)
                                              all_goals (repeat with_reducible refine QThen.ret1 ?_)
                                              all_goals (exact QRet.bool rfl rfl rfl (by first | rfl | (exfalso; first | omega | contradiction | (simp_all; done))))))))))))))))))))))))))

end Go.Proofs.Ytcmlckgdhnffmaa
