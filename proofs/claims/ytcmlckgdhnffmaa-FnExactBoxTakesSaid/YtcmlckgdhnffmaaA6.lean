/- The contracts of some of the program's functions: A6. -/
import Derived.Test.YtcmlckgdhnffmaaA5
import Derived.Test.YtcmlckgdhnffmaaE12
import Derived.Test.YtcmlckgdhnffmaaProg
namespace Go.Proofs.Ytcmlckgdhnffmaa
open Go Go.RowKit E
set_option linter.unusedVariables false

def hasB (s : Int) (i : Nat) : Bool := s.toNat.testBit i
theorem and31 {i : Nat} (h : i ≤ 30) : ((((i : Int).toNat &&& (31 : Int).toNat : Nat) : Int)).toNat = i := by
  have : i &&& 31 = i := by
    have := Nat.and_two_pow_sub_one_eq_mod i 5
    simp only [Nat.reducePow, Nat.reduceSub] at this
    rw [this]; omega
  simp [this]
theorem and31' {i : Nat} (h : i ≤ 30) : ((i : Int).toNat &&& (31 : Int).toNat) = i := by
  have := and31 h
  simpa using this
theorem and_pow (x i : Nat) : decide (x &&& 2 ^ i ≠ 0) = x.testBit i := by
  cases h : x.testBit i with
  | true =>
    apply decide_eq_true
    intro k
    have := Nat.testBit_and x (2 ^ i) i
    rw [k, h, Nat.testBit_two_pow_self] at this
    simp at this
  | false =>
    apply decide_eq_false
    simp only [ne_eq, Decidable.not_not]
    apply Nat.eq_of_testBit_eq
    intro j
    rw [Nat.testBit_and, Nat.testBit_two_pow, Nat.zero_testBit]
    by_cases e : i = j
    · subst e; rw [h]; rfl
    · simp [e]
theorem has_and {s : Int} {i : Nat} : decide (((s.toNat &&& (((2 ^ i : Nat) : Int)).toNat : Nat) : Int) ≠ 0) = hasB s i := by
  unfold hasB
  rw [Int.toNat_natCast, ← and_pow, decide_eq_decide]
  omega
theorem has_shr {s : Int} {i : Nat} : decide ((((((s.toNat >>> ((i : Int)).toNat : Nat) : Int)).toNat &&& (1 : Int).toNat : Nat) : Int) = 1) = hasB s i := by
  unfold hasB Nat.testBit
  rw [Int.toNat_natCast, Int.toNat_natCast]
  show decide (((s.toNat >>> i &&& 1 : Nat) : Int) = 1) = _
  rw [Nat.and_comm (s.toNat >>> i) 1, Nat.one_and_eq_mod_two]
  generalize s.toNat >>> i = q
  have : q % 2 = 0 ∨ q % 2 = 1 := by omega
  rcases this with h | h <;> simp [h]
structure RankD where
  r : List Int
  o : Int
  deriving Inhabited, DecidableEq
def rankA (r : RankD) : AV := .agg [.list 1 (r.r.map (AV.int .i64)), .int .i64 r.o]
abbrev rankHead (a : AutoD) (r : RankD) : Prop := (autoOk a = true ∧ a.n ≤ 2) ∧ (r.r.length : Int) = a.n ∧ (0 ≤ r.o ∧ r.o < ((2 ^ a.n.toNat : Nat) : Int))
abbrev rankAt (a : AutoD) (r : RankD) (j : Nat) : Prop := (-1 ≤ r.r.getD j 0 ∧ r.r.getD j 0 ≤ 2 * a.n) ∧ (hasB r.o j = true → 0 ≤ r.r.getD j 0 ∧ r.r.getD j 0 % 2 = 0)
def rankOk (a : AutoD) (r : RankD) : Bool := decide (rankHead a r) && (List.range r.r.length).all fun j => decide (rankAt a r j)
theorem rankOk_head {a : AutoD} {r : RankD} (h : ¬ rankHead a r) : false = rankOk a r := by unfold rankOk; rw [decide_eq_false h]; rfl
theorem rankOk_at {a : AutoD} {r : RankD} {j : Nat} (hj : j < r.r.length) (h : ¬ rankAt a r j) : false = rankOk a r := by
  have : ((List.range r.r.length).all fun j => decide (rankAt a r j)) = false := by
    rw [← Bool.not_eq_true, List.all_eq_true]; intro k; exact h (of_decide_eq_true (k j (List.mem_range.mpr hj)))
  unfold rankOk; rw [this, Bool.and_false]
theorem rankOk_all {a : AutoD} {r : RankD} (h : rankHead a r) (k : ∀ j, j < r.r.length → rankAt a r j) : true = rankOk a r := by
  unfold rankOk; rw [decide_eq_true h]
  symm; rw [Bool.true_and, List.all_eq_true]; intro j hj; exact decide_eq_true (k j (List.mem_range.mp hj))
theorem upTo_next {p : Nat → Prop} {i : Nat} (h : ∀ j, j < i → p j) (k : p i) : ∀ j, j < i + 1 → p j := fun j hj => by
  by_cases e : j = i
  · subst e; exact k
  · exact h j (by omega)

theorem call_139 : callable Try.prog 139 = true := by kernel_rfl
theorem fieldA_63_0 : fieldA Try.prog 63 0 = some 0 := by kernel_rfl
theorem aggA_22 : aggA Try.prog 22 = some false := by kernel_rfl
theorem fieldA_63_1 : fieldA Try.prog 63 1 = some 1 := by kernel_rfl
theorem call_120 : callable Try.prog 120 = true := by kernel_rfl
theorem call_85 : callable Try.prog 85 = true := by kernel_rfl
theorem aggA_63 : aggA Try.prog 63 = some true := by kernel_rfl
theorem sizeA_63 : sizeA Try.prog 63 = some 2 := by kernel_rfl
theorem call_86 : callable Try.prog 86 = true := by kernel_rfl
theorem call_88 : callable Try.prog 88 = true := by kernel_rfl
theorem call_89 : callable Try.prog 89 = true := by kernel_rfl
theorem zeroA_63 : zeroA Try.prog 63 = some (.agg #[(.slice none 0 0), (.int .i64 0)]) := by kernel_rfl
theorem fieldA_58_0 : fieldA Try.prog 58 0 = some 0 := by kernel_rfl
theorem sizeA_22 : sizeA Try.prog 22 = some 1 := by kernel_rfl
theorem fieldA_58_1 : fieldA Try.prog 58 1 = some 1 := by kernel_rfl
theorem call_84 : callable Try.prog 84 = true := by kernel_rfl
theorem call_38 : callable Try.prog 38 = true := by kernel_rfl
theorem aggA_58 : aggA Try.prog 58 = some true := by kernel_rfl
theorem sizeA_58 : sizeA Try.prog 58 = some 2 := by kernel_rfl
theorem call_41 : callable Try.prog 41 = true := by kernel_rfl
theorem call_39 : callable Try.prog 39 = true := by kernel_rfl
theorem call_42 : callable Try.prog 42 = true := by kernel_rfl
theorem call_44 : callable Try.prog 44 = true := by kernel_rfl
theorem cellsOf_22 : Try.prog.cellsOf 22 = 1 := by kernel_rfl
theorem cellsOf_58 : Try.prog.cellsOf 58 = 2 := by kernel_rfl
set_option maxRecDepth 10000 in
theorem spec_l1Bit (i : Nat) (hi : i ≤ 30) : PC Try.prog 139 [.int .i64 i] (fun v => v = .int .i64 ((2 ^ i : Nat) : Int)) := by
  refine PC.enter Try.func139 rfl Try.ntmps139 (by simp) ?_
  all_goals (refine AWP.seqR rfl ?_)
  all_goals (refine ASL.light rfl rfl (opAssign (v := .int _ _) rfl rfl) ?_)
  all_goals (refine ASL.done ?_)
  all_goals (refine AWP.seqR rfl ?_)
  all_goals (refine ASL.light rfl rfl (opMove (v := .int _ _) rfl rfl) ?_)
  all_goals (refine ASL.light rfl rfl (opAndN rfl rfl rfl (by omega) (by omega)) ?_)
  all_goals (refine ASL.light rfl rfl (opShl1 rfl rfl rfl (by rw [and31' hi]; omega)) ?_)
  all_goals (refine ASL.light rfl rfl (opAssign (v := .int _ _) rfl rfl) ?_)
  all_goals (refine ASL.done ?_)
  all_goals (refine AWP.ret ?_)
  all_goals (repeat with_reducible refine QThen.ret1 ?_)
  all_goals (exact QRet.int rfl rfl rfl (by rw [and31 hi]))

set_option maxRecDepth 10000 in
theorem spec_l1Has (s : Int) (i : Nat) (hs : 0 ≤ s ∧ s ≤ 2147483647) (hi : i ≤ 30) : PC Try.prog 120 [.int .i64 s, .int .i64 i] (fun v => v = .bool (hasB s i)) := by
  refine PC.enter Try.func120 rfl Try.ntmps120 (by simp) ?_
  all_goals (refine AWP.seqR rfl ?_)
  all_goals (refine ASL.light rfl rfl (opAssign (v := .bool _) rfl rfl) ?_)
  all_goals (refine ASL.done ?_)
  all_goals (refine AWP.seqR rfl ?_)
  all_goals (refine ASL.light rfl rfl (opMove (v := .int _ _) rfl rfl) ?_)
  all_goals (refine ASL.callD rfl rfl rfl rfl call_63 (spec_l1In _ _ _) rfl ?_ ?_ <;> intro h6)
  all_goals (refine ASL.light rfl rfl (opMove (v := .bool _) rfl rfl) ?_)
  all_goals (first | (refine ASL.off rfl rfl ?_) | (refine ASL.light rfl rfl (opMove (v := .int _ _) rfl rfl) ?_))
  all_goals (first | (refine ASL.off rfl rfl ?_) | (refine ASL.light rfl rfl (opMove (v := .int _ _) rfl rfl) ?_))
  all_goals (first | (refine ASL.off rfl rfl ?_) | (refine ASL.callP rfl rfl rfl rfl call_139 (spec_l1Bit _ (by omega)) rfl ?_; rintro _ rfl))
  all_goals (first | (refine ASL.off rfl rfl ?_) | (have hp : (2 : Nat) ^ i ≤ 2 ^ 30 := Nat.pow_le_pow_right (by omega) hi; have hp0 : (0 : Int) ≤ ((2 ^ i : Nat) : Int) := Int.natCast_nonneg _; refine ASL.light rfl rfl (opAndN rfl rfl rfl (by omega) (by omega)) ?_))
  all_goals (first | (refine ASL.off rfl rfl ?_) | (refine ASL.light rfl rfl (opInt rfl rfl rfl rfl) ?_))
  all_goals (refine ASL.light rfl rfl (opPick (v := .bool _) rfl rfl rfl) ?_)
  all_goals (refine ASL.light rfl rfl (opAssign (v := .bool _) rfl rfl) ?_)
  all_goals (refine ASL.done ?_)
  all_goals (refine AWP.ret ?_)
  all_goals (repeat with_reducible refine QThen.ret1 ?_)
  all_goals (first | exact QRet.bool rfl rfl rfl has_and | (exfalso; omega))

set_option maxRecDepth 10000 in
theorem impl_has (s : Int) (i : Nat) (hs : 0 ≤ s ∧ s ≤ 2147483647) (hi : i ≤ 30) : PC Try.prog 89 [.int .i64 s, .int .i64 i] (fun v => v = .bool (hasB s i)) := by
  refine PC.enter Try.func89 rfl Try.ntmps89 (by simp) ?_
  all_goals (refine AWP.seqR rfl ?_)
  all_goals (refine ASL.light rfl rfl (opAssign (v := .bool _) rfl rfl) ?_)
  all_goals (refine ASL.done ?_)
  all_goals (refine AWP.seqR rfl ?_)
  all_goals (refine ASL.light rfl rfl (opMove (v := .int _ _) rfl rfl) ?_)
  all_goals (refine ASL.light rfl rfl (opMove (v := .int _ _) rfl rfl) ?_)
  all_goals (refine ASL.light rfl rfl (opConv (v := .int .u64 i) rfl rfl und_3 und_138 (by rw [show IntKind.u64.wrap (i : Int) = i from by simp [IntKind.wrap, IntKind.bits]; omega])) ?_)
  all_goals (refine ASL.light rfl rfl (opShrN rfl rfl rfl (by omega) (by omega)) ?_)
  all_goals (have hq : s.toNat >>> ((i : Int)).toNat ≤ s.toNat := by first | exact Nat.shiftRight_le _ _ | (rw [Nat.shiftRight_eq_div_pow]; exact Nat.div_le_self _ _) | rw [Nat.shiftRight_eq_div_pow]); (generalize hg : s.toNat >>> ((i : Int)).toNat = q at hq ⊢); (refine ASL.light rfl rfl (opAndN rfl rfl rfl (by omega) (by omega)) ?_)
  all_goals (refine ASL.light rfl rfl (opInt rfl rfl rfl rfl) ?_)
  all_goals (refine ASL.light rfl rfl (opAssign (v := .bool _) rfl rfl) ?_)
  all_goals (refine ASL.done ?_)
  all_goals (refine AWP.ret ?_)
  all_goals (repeat with_reducible refine QThen.ret1 ?_)
  all_goals (exact QRet.bool rfl rfl rfl (by rw [← hg]; exact has_shr))

set_option maxRecDepth 10000 in
theorem spec_l13States (a : AutoD) (hl : a.es.length ≤ 1048576) : PC Try.prog 85 [autoA a] (fun v => v = .bool (decide (autoOk a = true ∧ a.n ≤ 2))) := by
  refine PC.enter Try.func85 rfl Try.ntmps85 (by simp) ?_
  all_goals (refine AWP.seqR rfl ?_)
  all_goals (refine ASL.boxI rfl rfl rfl rfl rfl ?_)
  all_goals (refine ASL.light rfl rfl (opAssign (v := .bool _) rfl rfl) ?_)
  all_goals (refine ASL.done ?_)
  all_goals (refine AWP.seqR rfl ?_)
  all_goals (refine ASL.light rfl rfl (opLoadRA rfl aggA_35 sizeA_35 rfl (by first | exact Nat.le_of_ble_eq_true rfl | (simp; done)) rfl) ?_)
  all_goals (refine ASL.callB rfl rfl rfl rfl call_27 (spec_AutoOk _ (by omega)) rfl ?_ ?_ <;> intro h4)
  all_goals (refine ASL.light rfl rfl (opMove (v := .bool _) rfl rfl) ?_)
  all_goals (first | (refine ASL.off rfl rfl ?_) | (refine ASL.light rfl rfl (opFieldAddrR rfl fieldA_35_1 rfl rfl) ?_) | (refine ASL.light rfl rfl (opFieldAddr rfl fieldA_35_1 rfl rfl) ?_))
  all_goals (first | (refine ASL.off rfl rfl ?_) | (refine ASL.light rfl rfl (opLoadR (v := .int _ _) rfl aggA_3 rfl rfl) ?_) | (refine ASL.light rfl rfl (opLoadOwnI rfl aggA_3 rfl (by assumption) (by first | omega | (simp; omega))) ?_))
  all_goals (first | (refine ASL.off rfl rfl ?_) | (refine ASL.light rfl rfl (opInt rfl rfl rfl rfl) ?_))
  all_goals (refine ASL.light rfl rfl (opPick (v := .bool _) rfl rfl rfl) ?_)
  all_goals (refine ASL.light rfl rfl (opAssign (v := .bool _) rfl rfl) ?_)
  all_goals (refine ASL.done ?_)
  all_goals (refine AWP.ret ?_)
  all_goals (repeat with_reducible refine QThen.ret1 ?_)
  all_goals (exact QRet.bool rfl rfl rfl (by symm; first | (apply decide_eq_false; rintro ⟨k, _⟩; simp_all; done) | (rw [decide_eq_decide]; constructor; exact fun k => k.2; exact fun k => ⟨by assumption, k⟩)))

set_option maxRecDepth 10000 in
theorem impl_isRanked (a : AutoD) (hl : a.es.length ≤ 1048576) : PC Try.prog 88 [autoA a] (fun v => v = .bool (decide (autoOk a = true ∧ a.n ≤ 2))) := by
  refine PC.enter Try.func88 rfl Try.ntmps88 (by simp) ?_
  all_goals (refine AWP.seqR rfl ?_)
  all_goals (refine ASL.boxI rfl rfl rfl rfl rfl ?_)
  all_goals (refine ASL.light rfl rfl (opAssign (v := .bool _) rfl rfl) ?_)
  all_goals (refine ASL.done ?_)
  all_goals (refine AWP.seqR rfl ?_)
  all_goals (refine ASL.light rfl rfl (opLoadRA rfl aggA_35 sizeA_35 rfl (by first | exact Nat.le_of_ble_eq_true rfl | (simp; done)) rfl) ?_)
  all_goals (refine ASL.callB rfl rfl rfl rfl call_75 (impl_AutoOk _ (by omega)) rfl ?_ ?_ <;> intro h4)
  all_goals (refine ASL.light rfl rfl (opMove (v := .bool _) rfl rfl) ?_)
  all_goals (first | (refine ASL.off rfl rfl ?_) | (refine ASL.light rfl rfl (opFieldAddrR rfl fieldA_35_1 rfl rfl) ?_) | (refine ASL.light rfl rfl (opFieldAddr rfl fieldA_35_1 rfl rfl) ?_))
  all_goals (first | (refine ASL.off rfl rfl ?_) | (refine ASL.light rfl rfl (opLoadR (v := .int _ _) rfl aggA_3 rfl rfl) ?_) | (refine ASL.light rfl rfl (opLoadOwnI rfl aggA_3 rfl (by assumption) (by first | omega | (simp; omega))) ?_))
  all_goals (first | (refine ASL.off rfl rfl ?_) | (refine ASL.light rfl rfl (opInt rfl rfl rfl rfl) ?_))
  all_goals (refine ASL.light rfl rfl (opPick (v := .bool _) rfl rfl rfl) ?_)
  all_goals (refine ASL.light rfl rfl (opAssign (v := .bool _) rfl rfl) ?_)
  all_goals (refine ASL.done ?_)
  all_goals (refine AWP.ret ?_)
  all_goals (repeat with_reducible refine QThen.ret1 ?_)
  all_goals (exact QRet.bool rfl rfl rfl (by symm; first | (apply decide_eq_false; rintro ⟨k, _⟩; simp_all; done) | (rw [decide_eq_decide]; constructor; exact fun k => k.2; exact fun k => ⟨by assumption, k⟩)))

set_option maxRecDepth 10000 in
theorem spec_l13Ok (a : AutoD) (r : RankD) (hk : autoOk a = true ∧ a.n ≤ 2) (hl : r.r.length ≤ 1048576) : PC Try.prog 86 [autoA a, rankA r] (fun v => v = .bool (rankOk a r)) := by
  refine PC.enter Try.func86 rfl Try.ntmps86 (by simp) ?_
  have hh := (autoOk_inv hk.1).1; have hp := pow31 hh.2.1
  all_goals (refine AWP.seqR rfl ?_)
  all_goals (refine ASL.boxI rfl rfl rfl rfl rfl ?_)
  all_goals (refine ASL.boxI rfl rfl rfl rfl rfl ?_)
  all_goals (refine ASL.light rfl rfl (opAssign (v := .bool _) rfl rfl) ?_)
  all_goals (refine ASL.done ?_)
  all_goals (refine AWP.seq ?_)
  all_goals (refine AWP.seqD [(0, false), (1, false), (2, false), (3, false), (4, false), (5, false), (6, false), (7, false), (8, false), (9, false), (10, false), (11, false), (12, false), (13, false), (14, false), (15, false)] mixed (by kernel_rfl) rfl ?_)
  all_goals (first | (refine ARL.light0 rfl rfl rfl (opFieldAddrR rfl fieldA_63_0 rfl rfl) ?_) | (refine ARL.light0 rfl rfl rfl (opFieldAddr rfl fieldA_63_0 rfl rfl) ?_))
  all_goals (first | (refine ARL.light0 rfl rfl rfl (opLoadR (v := .list _ _) rfl aggA_22 rfl rfl) ?_) | (refine ARL.light0 rfl rfl rfl (opLoadR (v := .slc _ _ _ _) rfl aggA_22 rfl rfl) ?_) | (refine ARL.light0 rfl rfl rfl (opLoadR (v := .nil) rfl aggA_22 rfl rfl) ?_) | (refine ARL.light rfl rfl rfl (opLoadOwnM rfl aggA_22 rfl (by assumption) (by first | omega | (simp; omega)) (fun _ => rfl)) (by intro b_ hb_; rw [List.mem_singleton.mp hb_]; exact Own.alive (by assumption) (by first | omega | (simp; omega))) ?_))
  all_goals (first | (refine ARL.light0 rfl rfl rfl (opLenMap rfl rfl rfl lenT_22 rfl) ?_) | (refine ARL.light0 rfl rfl rfl (opLenOf rfl rfl rfl lenT_22 rfl rfl) ?_))
  all_goals (first | (refine ARL.light0 rfl rfl rfl (opFieldAddrR rfl fieldA_35_1 rfl rfl) ?_) | (refine ARL.light0 rfl rfl rfl (opFieldAddr rfl fieldA_35_1 rfl rfl) ?_))
  all_goals (first | (refine ARL.light0 rfl rfl rfl (opLoadR (v := .int _ _) rfl aggA_3 rfl rfl) ?_) | (refine ARL.light rfl rfl rfl (opLoadOwnI rfl aggA_3 rfl (by assumption) (by first | omega | (simp; omega))) (by intro b_ hb_; rw [List.mem_singleton.mp hb_]; exact Own.alive (by assumption) (by first | omega | (simp; omega))) ?_))
  all_goals (refine ARL.dec rfl rfl rfl (opInt rfl rfl rfl rfl) ?_ ?_ <;> intro h12)
  all_goals (refine ARL.light0 rfl rfl rfl (opMove (v := .bool _) rfl rfl) ?_)
  all_goals (first | (refine ARL.off rfl rfl ?_) | (refine ARL.light0 rfl rfl rfl (opFieldAddrR rfl fieldA_63_1 rfl rfl) ?_) | (refine ARL.light0 rfl rfl rfl (opFieldAddr rfl fieldA_63_1 rfl rfl) ?_))
  all_goals (first | (refine ARL.off rfl rfl ?_) | (refine ARL.light0 rfl rfl rfl (opLoadR (v := .int _ _) rfl aggA_3 rfl rfl) ?_) | (refine ARL.light rfl rfl rfl (opLoadOwnI rfl aggA_3 rfl (by assumption) (by first | omega | (simp; omega))) (by intro b_ hb_; rw [List.mem_singleton.mp hb_]; exact Own.alive (by assumption) (by first | omega | (simp; omega))) ?_))
  all_goals (first | (refine ARL.off rfl rfl ?_) | (refine ARL.light0 rfl rfl rfl (opFieldAddrR rfl fieldA_35_1 rfl rfl) ?_) | (refine ARL.light0 rfl rfl rfl (opFieldAddr rfl fieldA_35_1 rfl rfl) ?_))
  all_goals (first | (refine ARL.off rfl rfl ?_) | (refine ARL.light0 rfl rfl rfl (opLoadR (v := .int _ _) rfl aggA_3 rfl rfl) ?_) | (refine ARL.light rfl rfl rfl (opLoadOwnI rfl aggA_3 rfl (by assumption) (by first | omega | (simp; omega))) (by intro b_ hb_; rw [List.mem_singleton.mp hb_]; exact Own.alive (by assumption) (by first | omega | (simp; omega))) ?_))
  all_goals (first | (refine ARL.off rfl rfl ?_) | (refine ARL.light0 rfl rfl rfl (opShl1 rfl rfl rfl (by omega)) ?_))
  all_goals (first | (refine ARL.off rfl rfl ?_) | (refine ARL.light0 rfl rfl rfl (opSub rfl rfl rfl (by omega)) ?_) | (refine ARL.light0 rfl rfl rfl (opInt rfl rfl rfl rfl) ?_))
  all_goals (first | (refine ARL.off rfl rfl ?_) | (refine ARL.callD rfl rfl rfl rfl call_71 (spec_SetIn _ _) rfl ?_ ?_ <;> intro h20))
  all_goals (first | (refine ARL.off rfl rfl ?_) | (refine ARL.light0 rfl rfl rfl (opNot rfl rfl) ?_))
  all_goals (refine ARL.light0 rfl rfl rfl (opPick (v := .bool _) rfl rfl rfl) ?_)
  all_goals (refine ARL.done ?_)
  all_goals (first
    | (
      refine AWP.condF rfl ?_
      all_goals (refine AWP.skip ?_)
      all_goals (refine AWP.seq ?_)
      all_goals (refine AWP.seqR rfl ?_)
      all_goals (refine ASL.light rfl rfl (opAssign (v := .int _ _) rfl rfl) ?_)
      all_goals (refine ASL.done ?_)
      all_goals (refine AWP.block ?_)
      all_goals (refine AWP.loopL (α := Nat) (fun i => [(2, .rptr [.int .i64 a.l, .int .i64 a.n, .int .i64 a.s, .list 4 (a.es.map edgeA)]), (3, .rptr [.list 1 (r.r.map (AV.int .i64)), .int .i64 r.o]), (5, .int .i64 i)]) (fun i G => G = fun _ => none) (fun i => r.r.length - i) (fun i => i ≤ r.r.length ∧ ∀ j, j < i → rankAt a r j) 0 ⟨by omega, fun j hj => by omega⟩ ⟨rfl, rfl, rfl, trivial⟩ rfl ?_)
      rintro i G0 hI0 rfl
      all_goals (refine AWP.seq ?_)
      all_goals (refine AWP.seqR rfl ?_)
      all_goals (refine ASL.light rfl rfl (opMove (v := .int _ _) rfl rfl) ?_)
      all_goals (first | (refine ASL.light rfl rfl (opFieldAddrR rfl fieldA_35_1 rfl rfl) ?_) | (refine ASL.light rfl rfl (opFieldAddr rfl fieldA_35_1 rfl rfl) ?_))
      all_goals (first | (refine ASL.light rfl rfl (opLoadR (v := .int _ _) rfl aggA_3 rfl rfl) ?_) | (refine ASL.light rfl rfl (opLoadOwnI rfl aggA_3 rfl (by assumption) (by first | omega | (simp; omega))) ?_))
      all_goals (refine ASL.dec rfl rfl (opInt rfl rfl rfl rfl) ?_ ?_ <;> intro h26)
      all_goals (refine ASL.done ?_)
      all_goals (first
        | (
          refine AWP.condT rfl ?_
          all_goals (refine AWP.skip ?_)
          all_goals (refine AWP.seq ?_)
          all_goals (refine AWP.block ?_)
          all_goals (refine AWP.seqR rfl ?_)
          all_goals (first | (refine ASL.light rfl rfl (opFieldAddrR rfl fieldA_63_0 rfl rfl) ?_) | (refine ASL.light rfl rfl (opFieldAddr rfl fieldA_63_0 rfl rfl) ?_))
          all_goals (first | (refine ASL.light rfl rfl (opLoadR (v := .list _ _) rfl aggA_22 rfl rfl) ?_) | (refine ASL.light rfl rfl (opLoadR (v := .slc _ _ _ _) rfl aggA_22 rfl rfl) ?_) | (refine ASL.light rfl rfl (opLoadR (v := .nil) rfl aggA_22 rfl rfl) ?_) | (refine ASL.light rfl rfl (opLoadOwnM rfl aggA_22 rfl (by assumption) (by first | omega | (simp; omega)) (fun _ => rfl)) ?_))
          all_goals (refine ASL.light rfl rfl (opMove (v := .int _ _) rfl rfl) ?_)
          all_goals (first | (refine ASL.light rfl rfl (opIndexIN rfl rfl rfl elemA_22 sizeA_3 (by omega)) ?_) | (refine ASL.light rfl rfl (opIndexI rfl rfl rfl elemA_22 sizeA_3 (by omega) (by omega)) ?_) | (refine ASL.light rfl rfl (opIndexN rfl rfl rfl elemA_22 sizeA_3 (by omega) rfl) ?_) | (refine ASL.light rfl rfl (opIndexMap rfl rfl rfl elemA_22 sizeA_3 (by omega) (by omega) rfl) ?_) | (refine ASL.light rfl rfl (opIndexAddrN rfl rfl rfl elemA_22 sizeA_3 (by omega)) ?_) | (refine ASL.light rfl rfl (opIndexAddr rfl rfl rfl elemA_22 sizeA_3 (by omega) (by omega) rfl) ?_))
          all_goals (first | (refine ASL.light rfl rfl (opLoadR (v := .int _ _) rfl aggA_3 rfl rfl) ?_) | (refine ASL.light rfl rfl (opLoadOwnI rfl aggA_3 rfl (by assumption) (by first | omega | (simp; omega))) ?_))
          all_goals (refine ASL.light rfl rfl (opAssign (v := .int _ _) rfl rfl) ?_)
          all_goals (refine ASL.done ?_)
          all_goals (refine AWP.seqR rfl ?_)
          all_goals (refine ASL.light rfl rfl (opMove (v := .int _ _) rfl rfl) ?_)
          all_goals (first | (refine ASL.light rfl rfl (opFieldAddrR rfl fieldA_35_1 rfl rfl) ?_) | (refine ASL.light rfl rfl (opFieldAddr rfl fieldA_35_1 rfl rfl) ?_))
          all_goals (first | (refine ASL.light rfl rfl (opLoadR (v := .int _ _) rfl aggA_3 rfl rfl) ?_) | (refine ASL.light rfl rfl (opLoadOwnI rfl aggA_3 rfl (by assumption) (by first | omega | (simp; omega))) ?_))
          all_goals (first | (refine ASL.light rfl rfl (opMul rfl rfl rfl (by omega)) ?_) | (refine ASL.light rfl rfl (opInt rfl rfl rfl rfl) ?_))
          all_goals (refine ASL.callD rfl rfl rfl rfl call_63 (spec_l1In _ _ _) rfl ?_ ?_ <;> intro h38)
          all_goals (refine ASL.light rfl rfl (opNot rfl rfl) ?_)
          all_goals (refine ASL.light rfl rfl (opMove (v := .bool _) rfl rfl) ?_)
          all_goals (first | (refine ASL.off rfl rfl ?_) | (refine ASL.light rfl rfl (opFieldAddrR rfl fieldA_63_1 rfl rfl) ?_) | (refine ASL.light rfl rfl (opFieldAddr rfl fieldA_63_1 rfl rfl) ?_))
          all_goals (first | (refine ASL.off rfl rfl ?_) | (refine ASL.light rfl rfl (opLoadR (v := .int _ _) rfl aggA_3 rfl rfl) ?_) | (refine ASL.light rfl rfl (opLoadOwnI rfl aggA_3 rfl (by assumption) (by first | omega | (simp; omega))) ?_))
          all_goals (first | (refine ASL.off rfl rfl ?_) | (refine ASL.light rfl rfl (opMove (v := .int _ _) rfl rfl) ?_))
          all_goals (first | (refine ASL.off rfl rfl ?_) | (refine ASL.callB rfl rfl rfl rfl call_120 (spec_l1Has _ _ (by omega) (by omega)) rfl ?_ ?_ <;> intro h44))
          all_goals (first | (refine ASL.off rfl rfl ?_) | (refine ASL.light rfl rfl (opMove (v := .bool _) rfl rfl) ?_))
          all_goals (first | (refine ASL.off rfl rfl ?_) | (refine ASL.light rfl rfl (opMove (v := .int _ _) rfl rfl) ?_))
          all_goals (first | (refine ASL.off rfl rfl ?_) | (refine ASL.dec rfl rfl (opInt rfl rfl rfl rfl) ?_ ?_ <;> intro h47))
          all_goals (first | (refine ASL.off rfl rfl ?_) | (refine ASL.light rfl rfl (opMove (v := .bool _) rfl rfl) ?_))
          all_goals (first | (refine ASL.off rfl rfl ?_) | (refine ASL.light rfl rfl (opMove (v := .int _ _) rfl rfl) ?_))
          all_goals (first | (refine ASL.off rfl rfl ?_) | (refine ASL.light rfl rfl (opRem (v := .int .i64 (r.r.getD i 0 % 2)) rfl rfl rfl (by decide) (by rw [Int.tmod_eq_emod_of_nonneg (by omega)])) ?_))
          all_goals (first | (refine ASL.off rfl rfl ?_) | (refine ASL.dec rfl rfl (opInt rfl rfl rfl rfl) ?_ ?_ <;> intro h51))
          all_goals (first | (refine ASL.off rfl rfl ?_) | (refine ASL.light rfl rfl (opPick (v := .bool _) rfl rfl rfl) ?_))
          all_goals (first | (refine ASL.off rfl rfl ?_) | (refine ASL.light rfl rfl (opPick (v := .bool _) rfl rfl rfl) ?_))
          all_goals (refine ASL.light rfl rfl (opPick (v := .bool _) rfl rfl rfl) ?_)
          all_goals (refine ASL.done ?_)
          all_goals (first
            | (
              refine AWP.condF rfl ?_
              all_goals (refine AWP.skip ?_))
            | (
              refine AWP.condT rfl ?_
              all_goals (refine AWP.seqR rfl ?_)
              all_goals (refine ASL.light rfl rfl (opAssign (v := .bool _) rfl rfl) ?_)
              all_goals (refine ASL.done ?_)
              all_goals (refine AWP.ret ?_)
              all_goals (repeat with_reducible refine QThen.ret1 ?_)
              all_goals (exact QRet.bool rfl rfl rfl (by first | exact rankOk_head (fun hh => by obtain ⟨⟨g0, g1⟩, g2, g3⟩ := hh; have gh := (autoOk_inv g0).1.2.1; have hp := pow31 gh; first | contradiction | omega | exact absurd ((setIn_pow gh).mpr g3) (by assumption) | exact absurd (And.intro g0 g1) (by assumption)) | exact rankOk_at (j := i) (by omega) (fun hh => by first | exact absurd hh.1 (by assumption) | (have := hh.2 (by assumption); omega)) | exact rankOk_all ⟨by assumption, by omega, by first | omega | exact (setIn_pow (by omega)).mp (by assumption)⟩ (fun j hj => hI0.2 j (by omega))))))
          all_goals (refine AWP.lastR rfl ?_)
          all_goals (refine ASL.light rfl rfl (opMove (v := .int _ _) rfl rfl) ?_)
          all_goals (first | (refine ASL.light rfl rfl (opAdd rfl rfl rfl (by omega)) ?_) | (refine ASL.light rfl rfl (opInt rfl rfl rfl rfl) ?_))
          all_goals (refine ASL.light rfl rfl (opAssign (v := .int _ _) rfl rfl) ?_)
          all_goals (refine ASL.done ?_)
          all_goals (exact ⟨i + 1, ⟨by omega, upTo_next hI0.2 ⟨by assumption, fun hb => by first | omega | (exfalso; simp_all; done)⟩⟩, by omega, ⟨rfl, rfl, rfl, trivial⟩, rfl⟩))
        | (
          refine AWP.condF rfl ?_
          all_goals (refine AWP.exit ?_)))
      all_goals (refine AWP.seqR rfl ?_)
      all_goals (refine ASL.light rfl rfl (opAssign (v := .bool _) rfl rfl) ?_)
      all_goals (refine ASL.done ?_)
      all_goals (refine AWP.ret ?_)
      all_goals (repeat with_reducible refine QThen.ret1 ?_)
      all_goals (exact QRet.bool rfl rfl rfl (by first | exact rankOk_head (fun hh => by obtain ⟨⟨g0, g1⟩, g2, g3⟩ := hh; have gh := (autoOk_inv g0).1.2.1; have hp := pow31 gh; first | contradiction | omega | exact absurd ((setIn_pow gh).mpr g3) (by assumption) | exact absurd (And.intro g0 g1) (by assumption)) | exact rankOk_at (j := i) (by omega) (fun hh => by first | exact absurd hh.1 (by assumption) | (have := hh.2 (by assumption); omega)) | exact rankOk_all ⟨by assumption, by omega, by first | omega | exact (setIn_pow (by omega)).mp (by assumption)⟩ (fun j hj => hI0.2 j (by omega)))))
    | (
      refine AWP.condT rfl ?_
      all_goals (refine AWP.seqR rfl ?_)
      all_goals (refine ASL.light rfl rfl (opAssign (v := .bool _) rfl rfl) ?_)
      all_goals (refine ASL.done ?_)
      all_goals (refine AWP.ret ?_)
      all_goals (repeat with_reducible refine QThen.ret1 ?_)
      all_goals (exact QRet.bool rfl rfl rfl (by first | exact rankOk_head (fun hh => by obtain ⟨⟨g0, g1⟩, g2, g3⟩ := hh; have gh := (autoOk_inv g0).1.2.1; have hp := pow31 gh; first | contradiction | omega | exact absurd ((setIn_pow gh).mpr g3) (by assumption) | exact absurd (And.intro g0 g1) (by assumption)) | exact rankOk_at (j := i) (by omega) (fun hh => by first | exact absurd hh.1 (by assumption) | (have := hh.2 (by assumption); omega)) | exact rankOk_all ⟨by assumption, by omega, by first | omega | exact (setIn_pow (by omega)).mp (by assumption)⟩ (fun j hj => hI0.2 j (by omega))))))

set_option maxRecDepth 10000 in
theorem spec_RankOk (a : AutoD) (r : RankD) (hl : a.es.length ≤ 1048576) (hr : r.r.length ≤ 1048576) : PC Try.prog 39 [autoA a, rankA r] (fun v => v = .bool (rankOk a r)) := by
  refine PC.enter Try.func39 rfl Try.ntmps39 (by simp) ?_
  all_goals (refine AWP.seqR rfl ?_)
  all_goals (refine ASL.boxI rfl rfl rfl rfl rfl ?_)
  all_goals (refine ASL.boxI rfl rfl rfl rfl rfl ?_)
  all_goals (refine ASL.light rfl rfl (opAssign (v := .bool _) rfl rfl) ?_)
  all_goals (refine ASL.done ?_)
  all_goals (refine AWP.seqR rfl ?_)
  all_goals (refine ASL.light rfl rfl (opLoadRA rfl aggA_35 sizeA_35 rfl (by first | exact Nat.le_of_ble_eq_true rfl | (simp; done)) rfl) ?_)
  all_goals (refine ASL.callD rfl rfl rfl rfl call_85 (spec_l13States _ (by omega)) rfl ?_ ?_ <;> intro h6)
  all_goals (refine ASL.light rfl rfl (opMove (v := .bool _) rfl rfl) ?_)
  all_goals (first | (refine ASL.off rfl rfl ?_) | (refine ASL.light rfl rfl (opLoadRA rfl aggA_35 sizeA_35 rfl (by first | exact Nat.le_of_ble_eq_true rfl | (simp; done)) rfl) ?_))
  all_goals (first | (refine ASL.off rfl rfl ?_) | (refine ASL.light rfl rfl (opLoadRA rfl aggA_63 sizeA_63 rfl (by first | exact Nat.le_of_ble_eq_true rfl | (simp; done)) rfl) ?_))
  all_goals (first | (refine ASL.off rfl rfl ?_) | (refine ASL.callB rfl rfl rfl rfl call_86 (spec_l13Ok _ _ (by assumption) (by omega)) rfl ?_ ?_ <;> intro h10))
  all_goals (refine ASL.light rfl rfl (opPick (v := .bool _) rfl rfl rfl) ?_)
  all_goals (refine ASL.light rfl rfl (opAssign (v := .bool _) rfl rfl) ?_)
  all_goals (refine ASL.done ?_)
  all_goals (refine AWP.ret ?_)
  all_goals (repeat with_reducible refine QThen.ret1 ?_)
  all_goals (exact QRet.bool rfl rfl rfl (by first | (symm; assumption) | exact rankOk_head (fun hh => absurd hh.1 (by assumption))))

set_option maxRecDepth 10000 in
theorem impl_RankOk (a : AutoD) (r : RankD) (hl : a.es.length ≤ 1048576) (hr : r.r.length ≤ 1048576) : PC Try.prog 42 [autoA a, rankA r] (fun v => v = .bool (rankOk a r)) := by
  refine PC.enter Try.func42 rfl Try.ntmps42 (by simp) ?_
  all_goals (refine AWP.seqR rfl ?_)
  all_goals (refine ASL.boxI rfl rfl rfl rfl rfl ?_)
  all_goals (refine ASL.boxI rfl rfl rfl rfl rfl ?_)
  all_goals (refine ASL.light rfl rfl (opAssign (v := .bool _) rfl rfl) ?_)
  all_goals (refine ASL.done ?_)
  all_goals (refine AWP.seq ?_)
  all_goals (refine AWP.seqD [(0, false), (1, false), (2, false), (3, false), (4, false), (5, false), (6, false), (7, false), (8, false), (9, false), (10, false), (11, false), (12, false), (13, false), (14, false), (15, false), (16, false), (17, false), (18, false), (19, false), (20, false), (21, false), (22, false), (23, false), (24, false)] mixed (by kernel_rfl) rfl ?_)
  all_goals (refine ARL.light0 rfl rfl rfl (opLoadRA rfl aggA_35 sizeA_35 rfl (by first | exact Nat.le_of_ble_eq_true rfl | (simp; done)) rfl) ?_)
  all_goals (refine ARL.callD rfl rfl rfl rfl call_88 (impl_isRanked _ (by omega)) rfl ?_ ?_ <;> intro h8)
  all_goals (refine ARL.light0 rfl rfl rfl (opNot rfl rfl) ?_)
  all_goals (refine ARL.light0 rfl rfl rfl (opMove (v := .bool _) rfl rfl) ?_)
  all_goals (first | (refine ARL.off rfl rfl ?_) | (refine ARL.light0 rfl rfl rfl (opFieldAddrR rfl fieldA_63_0 rfl rfl) ?_) | (refine ARL.light0 rfl rfl rfl (opFieldAddr rfl fieldA_63_0 rfl rfl) ?_))
  all_goals (first | (refine ARL.off rfl rfl ?_) | (refine ARL.light0 rfl rfl rfl (opLoadR (v := .list _ _) rfl aggA_22 rfl rfl) ?_) | (refine ARL.light0 rfl rfl rfl (opLoadR (v := .slc _ _ _ _) rfl aggA_22 rfl rfl) ?_) | (refine ARL.light0 rfl rfl rfl (opLoadR (v := .nil) rfl aggA_22 rfl rfl) ?_) | (refine ARL.light rfl rfl rfl (opLoadOwnM rfl aggA_22 rfl (by assumption) (by first | omega | (simp; omega)) (fun _ => rfl)) (by intro b_ hb_; rw [List.mem_singleton.mp hb_]; exact Own.alive (by assumption) (by first | omega | (simp; omega))) ?_))
  all_goals (first | (refine ARL.off rfl rfl ?_) | (refine ARL.light0 rfl rfl rfl (opLenMap rfl rfl rfl lenT_22 rfl) ?_) | (refine ARL.light0 rfl rfl rfl (opLenOf rfl rfl rfl lenT_22 rfl rfl) ?_))
  all_goals (first | (refine ARL.off rfl rfl ?_) | (refine ARL.light0 rfl rfl rfl (opFieldAddrR rfl fieldA_35_1 rfl rfl) ?_) | (refine ARL.light0 rfl rfl rfl (opFieldAddr rfl fieldA_35_1 rfl rfl) ?_))
  all_goals (first | (refine ARL.off rfl rfl ?_) | (refine ARL.light0 rfl rfl rfl (opLoadR (v := .int _ _) rfl aggA_3 rfl rfl) ?_) | (refine ARL.light rfl rfl rfl (opLoadOwnI rfl aggA_3 rfl (by assumption) (by first | omega | (simp; omega))) (by intro b_ hb_; rw [List.mem_singleton.mp hb_]; exact Own.alive (by assumption) (by first | omega | (simp; omega))) ?_))
  all_goals (first | (refine ARL.off rfl rfl ?_) | (refine ARL.dec rfl rfl rfl (opInt rfl rfl rfl rfl) ?_ ?_ <;> intro h16))
  all_goals (refine ARL.light0 rfl rfl rfl (opPick (v := .bool _) rfl rfl rfl) ?_)
  all_goals (refine ARL.light0 rfl rfl rfl (opMove (v := .bool _) rfl rfl) ?_)
  all_goals (first | (refine ARL.off rfl rfl ?_) | (refine ARL.light0 rfl rfl rfl (opFieldAddrR rfl fieldA_63_1 rfl rfl) ?_) | (refine ARL.light0 rfl rfl rfl (opFieldAddr rfl fieldA_63_1 rfl rfl) ?_))
  all_goals (first | (refine ARL.off rfl rfl ?_) | (refine ARL.light0 rfl rfl rfl (opLoadR (v := .int _ _) rfl aggA_3 rfl rfl) ?_) | (refine ARL.light rfl rfl rfl (opLoadOwnI rfl aggA_3 rfl (by assumption) (by first | omega | (simp; omega))) (by intro b_ hb_; rw [List.mem_singleton.mp hb_]; exact Own.alive (by assumption) (by first | omega | (simp; omega))) ?_))
  all_goals (first | (refine ARL.off rfl rfl ?_) | (refine ARL.callD rfl rfl rfl rfl call_81 (impl_SetOk _) rfl ?_ ?_ <;> intro h21))
  all_goals (first | (refine ARL.off rfl rfl ?_) | (refine ARL.light0 rfl rfl rfl (opNot rfl rfl) ?_))
  all_goals (refine ARL.light0 rfl rfl rfl (opPick (v := .bool _) rfl rfl rfl) ?_)
  all_goals (refine ARL.light0 rfl rfl rfl (opMove (v := .bool _) rfl rfl) ?_)
  all_goals (first | (refine ARL.off rfl rfl ?_) | (refine ARL.light0 rfl rfl rfl (opFieldAddrR rfl fieldA_63_1 rfl rfl) ?_) | (refine ARL.light0 rfl rfl rfl (opFieldAddr rfl fieldA_63_1 rfl rfl) ?_))
  all_goals (first | (refine ARL.off rfl rfl ?_) | (refine ARL.light0 rfl rfl rfl (opLoadR (v := .int _ _) rfl aggA_3 rfl rfl) ?_) | (refine ARL.light rfl rfl rfl (opLoadOwnI rfl aggA_3 rfl (by assumption) (by first | omega | (simp; omega))) (by intro b_ hb_; rw [List.mem_singleton.mp hb_]; exact Own.alive (by assumption) (by first | omega | (simp; omega))) ?_))
  all_goals (first | (refine ARL.off rfl rfl ?_) | (refine ARL.light0 rfl rfl rfl (opFieldAddrR rfl fieldA_35_1 rfl rfl) ?_) | (refine ARL.light0 rfl rfl rfl (opFieldAddr rfl fieldA_35_1 rfl rfl) ?_))
  all_goals (first | (refine ARL.off rfl rfl ?_) | (refine ARL.light0 rfl rfl rfl (opLoadR (v := .int _ _) rfl aggA_3 rfl rfl) ?_) | (refine ARL.light rfl rfl rfl (opLoadOwnI rfl aggA_3 rfl (by assumption) (by first | omega | (simp; omega))) (by intro b_ hb_; rw [List.mem_singleton.mp hb_]; exact Own.alive (by assumption) (by first | omega | (simp; omega))) ?_))
  all_goals (first | (refine ARL.off rfl rfl ?_) | (have hh := (autoOk_inv (And.left (by assumption : autoOk a = true ∧ a.n ≤ 2))).1; refine ARL.callP rfl rfl rfl rfl call_82 (impl_only _ (by omega)) rfl ?_; rintro _ rfl))
  all_goals (first | (refine ARL.off rfl rfl ?_) | (refine ARL.dec rfl rfl rfl (opInt rfl rfl rfl rfl) ?_ ?_ <;> intro h30))
  all_goals (refine ARL.light0 rfl rfl rfl (opPick (v := .bool _) rfl rfl rfl) ?_)
  all_goals (refine ARL.done ?_)
  all_goals (first
    | (
      refine AWP.condF rfl ?_
      all_goals (refine AWP.skip ?_)
      all_goals (refine AWP.seq ?_)
      all_goals (refine AWP.seqR rfl ?_)
      all_goals (first | (refine ASL.light rfl rfl (opFieldAddrR rfl fieldA_63_0 rfl rfl) ?_) | (refine ASL.light rfl rfl (opFieldAddr rfl fieldA_63_0 rfl rfl) ?_))
      all_goals (first | (refine ASL.light rfl rfl (opLoadR (v := .list _ _) rfl aggA_22 rfl rfl) ?_) | (refine ASL.light rfl rfl (opLoadR (v := .slc _ _ _ _) rfl aggA_22 rfl rfl) ?_) | (refine ASL.light rfl rfl (opLoadR (v := .nil) rfl aggA_22 rfl rfl) ?_) | (refine ASL.light rfl rfl (opLoadOwnM rfl aggA_22 rfl (by assumption) (by first | omega | (simp; omega)) (fun _ => rfl)) ?_))
      all_goals (first | (refine ASL.light rfl rfl (opLenMap rfl rfl rfl lenT_22 rfl) ?_) | (refine ASL.light rfl rfl (opLenOf rfl rfl rfl lenT_22 rfl rfl) ?_))
      all_goals (refine ASL.light rfl rfl (opMove (v := .int _ _) rfl rfl) ?_)
      all_goals (refine ASL.done ?_)
      all_goals (refine AWP.block ?_)
      all_goals (refine AWP.loopL (α := Nat) (fun i => [(2, .rptr [.int .i64 a.l, .int .i64 a.n, .int .i64 a.s, .list 4 (a.es.map edgeA)]), (3, .rptr [.list 1 (r.r.map (AV.int .i64)), .int .i64 r.o]), (33, .list 1 (r.r.map (AV.int .i64))), (34, .int .i64 r.r.length), (35, .int .i64 i)]) (fun i G => G = fun _ => none) (fun i => r.r.length - i) (fun i => i ≤ r.r.length ∧ ∀ j, j < i → rankAt a r j) 0 ⟨by omega, fun j hj => by omega⟩ ⟨rfl, rfl, rfl, rfl, rfl, trivial⟩ rfl ?_)
      rintro i G0 hI0 rfl
      all_goals (refine AWP.seqR rfl ?_)
      all_goals (refine ASL.dec rfl rfl (opInt rfl rfl rfl rfl) ?_ ?_ <;> intro h36)
      all_goals (refine ASL.done ?_)
      all_goals (refine AWP.seq ?_)
      all_goals (first
        | (
          refine AWP.condT rfl ?_
          all_goals (refine AWP.skip ?_)
          all_goals (refine AWP.seq ?_)
          all_goals (refine AWP.block ?_)
          all_goals (refine AWP.seqR rfl ?_)
          all_goals (refine ASL.light rfl rfl (opMove (v := .int _ _) rfl rfl) ?_)
          all_goals (first | (refine ASL.light rfl rfl (opIndexIN rfl rfl rfl elemA_22 sizeA_3 (by omega)) ?_) | (refine ASL.light rfl rfl (opIndexI rfl rfl rfl elemA_22 sizeA_3 (by omega) (by omega)) ?_) | (refine ASL.light rfl rfl (opIndexN rfl rfl rfl elemA_22 sizeA_3 (by omega) rfl) ?_) | (refine ASL.light rfl rfl (opIndexMap rfl rfl rfl elemA_22 sizeA_3 (by omega) (by omega) rfl) ?_) | (refine ASL.light rfl rfl (opIndexAddrN rfl rfl rfl elemA_22 sizeA_3 (by omega)) ?_) | (refine ASL.light rfl rfl (opIndexAddr rfl rfl rfl elemA_22 sizeA_3 (by omega) (by omega) rfl) ?_))
          all_goals (first | (refine ASL.light rfl rfl (opLoadR (v := .int _ _) rfl aggA_3 rfl rfl) ?_) | (refine ASL.light rfl rfl (opLoadOwnI rfl aggA_3 rfl (by assumption) (by first | omega | (simp; omega))) ?_))
          all_goals (refine ASL.light rfl rfl (opAssign (v := .int _ _) rfl rfl) ?_)
          all_goals (refine ASL.light rfl rfl (opAssign (v := .int _ _) rfl rfl) ?_)
          all_goals (refine ASL.done ?_)
          all_goals (refine AWP.seqR rfl ?_)
          all_goals (refine ASL.light rfl rfl (opMove (v := .int _ _) rfl rfl) ?_)
          all_goals (first | (refine ASL.light rfl rfl (opFieldAddrR rfl fieldA_35_1 rfl rfl) ?_) | (refine ASL.light rfl rfl (opFieldAddr rfl fieldA_35_1 rfl rfl) ?_))
          all_goals (first | (refine ASL.light rfl rfl (opLoadR (v := .int _ _) rfl aggA_3 rfl rfl) ?_) | (refine ASL.light rfl rfl (opLoadOwnI rfl aggA_3 rfl (by assumption) (by first | omega | (simp; omega))) ?_))
          all_goals (first | (have hh := (autoOk_inv (And.left (by assumption : autoOk a = true ∧ a.n ≤ 2))).1; refine ASL.light rfl rfl (opMul rfl rfl rfl (by omega)) ?_) | (have hh := (autoOk_inv (And.left (by assumption : autoOk a = true ∧ a.n ≤ 2))).1; refine ASL.light rfl rfl (opInt rfl rfl rfl rfl) ?_))
          all_goals (refine ASL.callD rfl rfl rfl rfl call_65 (impl_inRange _ _ _) rfl ?_ ?_ <;> intro h44)
          all_goals (refine ASL.light rfl rfl (opNot rfl rfl) ?_)
          all_goals (refine ASL.light rfl rfl (opMove (v := .bool _) rfl rfl) ?_)
          all_goals (first | (refine ASL.off rfl rfl ?_) | (refine ASL.light rfl rfl (opFieldAddrR rfl fieldA_63_1 rfl rfl) ?_) | (refine ASL.light rfl rfl (opFieldAddr rfl fieldA_63_1 rfl rfl) ?_))
          all_goals (first | (refine ASL.off rfl rfl ?_) | (refine ASL.light rfl rfl (opLoadR (v := .int _ _) rfl aggA_3 rfl rfl) ?_) | (refine ASL.light rfl rfl (opLoadOwnI rfl aggA_3 rfl (by assumption) (by first | omega | (simp; omega))) ?_))
          all_goals (first | (refine ASL.off rfl rfl ?_) | (refine ASL.light rfl rfl (opMove (v := .int _ _) rfl rfl) ?_))
          all_goals (first | (refine ASL.off rfl rfl ?_) | (refine ASL.callB rfl rfl rfl rfl call_89 (impl_has _ _ (by omega) (by omega)) rfl ?_ ?_ <;> intro h50))
          all_goals (first | (refine ASL.off rfl rfl ?_) | (refine ASL.light rfl rfl (opMove (v := .bool _) rfl rfl) ?_))
          all_goals (first | (refine ASL.off rfl rfl ?_) | (refine ASL.light rfl rfl (opMove (v := .int _ _) rfl rfl) ?_))
          all_goals (first | (refine ASL.off rfl rfl ?_) | (refine ASL.dec rfl rfl (opInt rfl rfl rfl rfl) ?_ ?_ <;> intro h53))
          all_goals (first | (refine ASL.off rfl rfl ?_) | (refine ASL.light rfl rfl (opMove (v := .bool _) rfl rfl) ?_))
          all_goals (first | (refine ASL.off rfl rfl ?_) | (refine ASL.light rfl rfl (opMove (v := .int _ _) rfl rfl) ?_))
          all_goals (first | (refine ASL.off rfl rfl ?_) | (refine ASL.light rfl rfl (opRem (v := .int .i64 (r.r.getD i 0 % 2)) rfl rfl rfl (by decide) (by rw [Int.tmod_eq_emod_of_nonneg (by omega)])) ?_))
          all_goals (first | (refine ASL.off rfl rfl ?_) | (refine ASL.dec rfl rfl (opInt rfl rfl rfl rfl) ?_ ?_ <;> intro h57))
          all_goals (first | (refine ASL.off rfl rfl ?_) | (refine ASL.light rfl rfl (opPick (v := .bool _) rfl rfl rfl) ?_))
          all_goals (first | (refine ASL.off rfl rfl ?_) | (refine ASL.light rfl rfl (opPick (v := .bool _) rfl rfl rfl) ?_))
          all_goals (refine ASL.light rfl rfl (opPick (v := .bool _) rfl rfl rfl) ?_)
          all_goals (refine ASL.done ?_)
          all_goals (first
            | (
              refine AWP.condF rfl ?_
              all_goals (refine AWP.skip ?_))
            | (
              refine AWP.condT rfl ?_
              all_goals (refine AWP.seqR rfl ?_)
              all_goals (refine ASL.light rfl rfl (opAssign (v := .bool _) rfl rfl) ?_)
              all_goals (refine ASL.done ?_)
              all_goals (refine AWP.ret ?_)
              all_goals (repeat with_reducible refine QThen.ret1 ?_)
              all_goals (exact QRet.bool rfl rfl rfl (by first | exact rankOk_head (fun hh => by obtain ⟨⟨g0, g1⟩, g2, g3⟩ := hh; have gh := (autoOk_inv g0).1.2.1; have hp := pow31 gh; first | contradiction | omega | exact absurd ((setIn_pow gh).mpr g3) (by assumption) | exact absurd (And.intro g0 g1) (by assumption)) | exact rankOk_at (j := i) (by omega) (fun hh => by first | exact absurd hh.1 (by assumption) | (have := hh.2 (by assumption); omega)) | exact rankOk_all ⟨by assumption, by omega, by first | omega | exact (setIn_pow (by omega)).mp (by assumption)⟩ (fun j hj => hI0.2 j (by omega))))))
          all_goals (refine AWP.lastR rfl ?_)
          all_goals (first | (refine ASL.light rfl rfl (opAdd rfl rfl rfl (by omega)) ?_) | (refine ASL.light rfl rfl (opInt rfl rfl rfl rfl) ?_))
          all_goals (refine ASL.light rfl rfl (opMove (v := .int _ _) rfl rfl) ?_)
          all_goals (refine ASL.done ?_)
          all_goals (exact ⟨i + 1, ⟨by omega, upTo_next hI0.2 ⟨by assumption, fun hb => by first | omega | (exfalso; simp_all; done)⟩⟩, by omega, ⟨rfl, rfl, rfl, rfl, rfl, trivial⟩, rfl⟩))
        | (
          refine AWP.condF rfl ?_
          all_goals (refine AWP.exit ?_)))
      all_goals (refine AWP.seqR rfl ?_)
      all_goals (refine ASL.light rfl rfl (opAssign (v := .bool _) rfl rfl) ?_)
      all_goals (refine ASL.done ?_)
      all_goals (refine AWP.ret ?_)
      all_goals (repeat with_reducible refine QThen.ret1 ?_)
      all_goals (exact QRet.bool rfl rfl rfl (by first | exact rankOk_head (fun hh => by obtain ⟨⟨g0, g1⟩, g2, g3⟩ := hh; have gh := (autoOk_inv g0).1.2.1; have hp := pow31 gh; first | contradiction | omega | exact absurd ((setIn_pow gh).mpr g3) (by assumption) | exact absurd (And.intro g0 g1) (by assumption)) | exact rankOk_at (j := i) (by omega) (fun hh => by first | exact absurd hh.1 (by assumption) | (have := hh.2 (by assumption); omega)) | exact rankOk_all ⟨by assumption, by omega, by first | omega | exact (setIn_pow (by omega)).mp (by assumption)⟩ (fun j hj => hI0.2 j (by omega)))))
    | (
      refine AWP.condT rfl ?_
      all_goals (refine AWP.seqR rfl ?_)
      all_goals (refine ASL.light rfl rfl (opAssign (v := .bool _) rfl rfl) ?_)
      all_goals (refine ASL.done ?_)
      all_goals (refine AWP.ret ?_)
      all_goals (repeat with_reducible refine QThen.ret1 ?_)
      all_goals (exact QRet.bool rfl rfl rfl (by first | exact rankOk_head (fun hh => by obtain ⟨⟨g0, g1⟩, g2, g3⟩ := hh; have gh := (autoOk_inv g0).1.2.1; have hp := pow31 gh; first | contradiction | omega | exact absurd ((setIn_pow gh).mpr g3) (by assumption) | exact absurd (And.intro g0 g1) (by assumption)) | exact rankOk_at (j := i) (by omega) (fun hh => by first | exact absurd hh.1 (by assumption) | (have := hh.2 (by assumption); omega)) | exact rankOk_all ⟨by assumption, by omega, by first | omega | exact (setIn_pow (by omega)).mp (by assumption)⟩ (fun j hj => hI0.2 j (by omega))))))

set_option maxRecDepth 10000 in
theorem laws_toRankState (r : RankD) (hx : r.r.length ≤ 1048576) : PC Try.prog 41 [rankA r] (fun v => v = rankA r) := by
  refine PC.enter Try.func41 rfl Try.ntmps41 (by simp) ?_
  all_goals (refine AWP.seqR rfl ?_)
  all_goals (refine ASL.boxI rfl rfl rfl rfl rfl ?_)
  all_goals (refine ASL.heavy1 rfl rfl (opAllocAt rfl zeroA_63 ?_); rintro b2 G2 hT2 hK2 hN2)
  all_goals (refine ASL.done ?_)
  all_goals (refine AWP.seqR rfl ?_)
  all_goals (refine ASL.heavy1 rfl rfl (opAllocAt rfl zeroA_63 ?_); rintro b3 G3 hT3 hK3 hN3; try (have hD3_2 := At.ne hT2 hN3); try (have hT2 := At.grow hT2 hK3))
  all_goals (refine ASL.done ?_)
  all_goals (refine AWP.seqR rfl ?_)
  all_goals (first | (refine ASL.light rfl rfl (opFieldAddrR rfl fieldA_58_0 rfl rfl) ?_) | (refine ASL.light rfl rfl (opFieldAddr rfl fieldA_58_0 rfl rfl) ?_))
  all_goals (first | (refine ASL.light rfl rfl (opLoadR (v := .list _ _) rfl aggA_22 rfl rfl) ?_) | (refine ASL.light rfl rfl (opLoadR (v := .slc _ _ _ _) rfl aggA_22 rfl rfl) ?_) | (refine ASL.light rfl rfl (opLoadR (v := .nil) rfl aggA_22 rfl rfl) ?_) | (refine ASL.light rfl rfl (opLoadOwnM rfl aggA_22 rfl (by assumption) (by first | omega | (simp; omega)) (fun _ => rfl)) ?_))
  all_goals (refine ASL.callP rfl rfl rfl rfl call_16 (PO.list (laws_toIntS_o _ (by omega))) rfl ?_; rintro _ rfl)
  all_goals (first | (refine ASL.light rfl rfl (opFieldAddrR rfl fieldA_63_0 rfl rfl) ?_) | (refine ASL.light rfl rfl (opFieldAddr rfl fieldA_63_0 rfl rfl) ?_))
  all_goals (refine ASL.store rfl rfl (opStoreAt rfl sizeA_22 rfl rfl hT3 rfl (by exact Nat.le_of_ble_eq_true rfl) ?_); rintro Gs1 hT3 hB1; try (have hT2 := At.near hT2 hB1 (by first | assumption | exact Ne.symm (by assumption))))
  all_goals (refine ASL.done ?_)
  all_goals (refine AWP.seqR rfl ?_)
  all_goals (first | (refine ASL.light rfl rfl (opFieldAddrR rfl fieldA_58_1 rfl rfl) ?_) | (refine ASL.light rfl rfl (opFieldAddr rfl fieldA_58_1 rfl rfl) ?_))
  all_goals (first | (refine ASL.light rfl rfl (opLoadR (v := .int _ _) rfl aggA_3 rfl rfl) ?_) | (refine ASL.light rfl rfl (opLoadOwnI rfl aggA_3 rfl (by assumption) (by first | omega | (simp; omega))) ?_))
  all_goals (first | (refine ASL.light rfl rfl (opFieldAddrR rfl fieldA_63_1 rfl rfl) ?_) | (refine ASL.light rfl rfl (opFieldAddr rfl fieldA_63_1 rfl rfl) ?_))
  all_goals (refine ASL.store rfl rfl (opStoreAt rfl sizeA_3 rfl rfl hT3 rfl (by exact Nat.le_of_ble_eq_true rfl) ?_); rintro Gs2 hT3 hB2; try (have hT2 := At.near hT2 hB2 (by first | assumption | exact Ne.symm (by assumption))))
  all_goals (refine ASL.done ?_)
  all_goals (refine AWP.seqR rfl ?_)
  all_goals (refine ASL.light rfl rfl (opLoadAtA rfl aggA_63 sizeA_63 rfl hT3 (Nat.le_of_ble_eq_true rfl)) ?_)
  all_goals (refine ASL.store rfl rfl (opStoreAtA rfl sizeA_63 rfl rfl hT2 rfl (by first | rfl | (simp [cells]; done)) (by first | rfl | (simp [cells]; done)) (Nat.le_of_ble_eq_true rfl) ?_); rintro Gs3 hT2 hB3; try (have hT3 := At.near hT3 hB3 (by first | assumption | exact Ne.symm (by assumption))))
  all_goals (refine ASL.done ?_)
  all_goals (refine AWP.ret ?_)
  all_goals (repeat with_reducible refine QThen.ret1 ?_)
  all_goals (refine QRet.cell rfl hT2 rfl aggA_63 sizeA_63 ?_; rfl)

set_option maxRecDepth 10000 in
theorem laws_szIntS (xs : List Int) (k : Int) (hx : xs.length ≤ 9223372036854775807) (hk : 0 ≤ k ∧ k ≤ 1048576) : PC Try.prog 84 [ints xs, .int .i64 k] (fun v => v = .int .i64 (if k < xs.length then -1 else k - xs.length)) := by
  refine PC.enter Try.func84 rfl Try.ntmps84 (by simp) ?_
  all_goals (refine AWP.seqR rfl ?_)
  all_goals (refine ASL.light rfl rfl (opAssign (v := .int _ _) rfl rfl) ?_)
  all_goals (refine ASL.done ?_)
  all_goals (refine AWP.seqR rfl ?_)
  all_goals (refine ASL.light rfl rfl (opMove (v := .int _ _) rfl rfl) ?_)
  all_goals (first | (refine ASL.light rfl rfl (opMove (v := .list _ _) rfl rfl) ?_) | (refine ASL.light rfl rfl (opMove (v := .slc _ _ _ _) rfl rfl) ?_) | (refine ASL.light rfl rfl (opMove (v := .nil) rfl rfl) ?_))
  all_goals (first | (refine ASL.light rfl rfl (opLenMap rfl rfl rfl lenT_22 rfl) ?_) | (refine ASL.light rfl rfl (opLenOf rfl rfl rfl lenT_22 rfl rfl) ?_))
  all_goals (first | (refine ASL.light rfl rfl (opSub rfl rfl rfl (by omega)) ?_) | (refine ASL.light rfl rfl (opInt rfl rfl rfl rfl) ?_))
  all_goals (refine ASL.light rfl rfl (opAssign (v := .int _ _) rfl rfl) ?_)
  all_goals (refine ASL.done ?_)
  all_goals (refine AWP.seq ?_)
  all_goals (refine AWP.seqR rfl ?_)
  all_goals (refine ASL.light rfl rfl (opMove (v := .int _ _) rfl rfl) ?_)
  all_goals (refine ASL.dec rfl rfl (opInt rfl rfl rfl rfl) ?_ ?_ <;> intro h10)
  all_goals (refine ASL.done ?_)
  all_goals (first
    | (
      refine AWP.condF rfl ?_
      all_goals (refine AWP.skip ?_)
      all_goals (refine AWP.seqR rfl ?_)
      all_goals (refine ASL.light rfl rfl (opMove (v := .int _ _) rfl rfl) ?_)
      all_goals (refine ASL.light rfl rfl (opAssign (v := .int _ _) rfl rfl) ?_)
      all_goals (refine ASL.done ?_)
      all_goals (refine AWP.ret ?_)
      all_goals (repeat with_reducible refine QThen.ret1 ?_)
      all_goals (first | exact QRet.int rfl rfl rfl (by rw [if_neg (by omega)]) | exact QRet.int rfl rfl rfl (by rw [if_pos (by omega)]) | exact QRet.int rfl rfl rfl (by split <;> omega)))
    | (
      refine AWP.condT rfl ?_
      all_goals (refine AWP.seqR rfl ?_)
      all_goals (refine ASL.light rfl rfl (opAssign (v := .int _ _) rfl rfl) ?_)
      all_goals (refine ASL.done ?_)
      all_goals (refine AWP.ret ?_)
      all_goals (repeat with_reducible refine QThen.ret1 ?_)
      all_goals (first | exact QRet.int rfl rfl rfl (by rw [if_neg (by omega)]) | exact QRet.int rfl rfl rfl (by rw [if_pos (by omega)]) | exact QRet.int rfl rfl rfl (by split <;> omega))))

set_option maxRecDepth 10000 in
theorem laws_szRankState (r : RankD) (k : Int) (hx : r.r.length ≤ 9223372036854775807) (hk : 0 ≤ k ∧ k ≤ 1048576) : PC Try.prog 38 [rankA r, .int .i64 k] (fun v => v = .int .i64 (if k < r.r.length then -1 else k - r.r.length)) := by
  refine PC.enter Try.func38 rfl Try.ntmps38 (by simp) ?_
  all_goals (refine AWP.seqR rfl ?_)
  all_goals (refine ASL.boxI rfl rfl rfl rfl rfl ?_)
  all_goals (refine ASL.light rfl rfl (opAssign (v := .int _ _) rfl rfl) ?_)
  all_goals (refine ASL.done ?_)
  all_goals (refine AWP.seqR rfl ?_)
  all_goals (first | (refine ASL.light rfl rfl (opFieldAddrR rfl fieldA_58_0 rfl rfl) ?_) | (refine ASL.light rfl rfl (opFieldAddr rfl fieldA_58_0 rfl rfl) ?_))
  all_goals (first | (refine ASL.light rfl rfl (opLoadR (v := .list _ _) rfl aggA_22 rfl rfl) ?_) | (refine ASL.light rfl rfl (opLoadR (v := .slc _ _ _ _) rfl aggA_22 rfl rfl) ?_) | (refine ASL.light rfl rfl (opLoadR (v := .nil) rfl aggA_22 rfl rfl) ?_) | (refine ASL.light rfl rfl (opLoadOwnM rfl aggA_22 rfl (by assumption) (by first | omega | (simp; omega)) (fun _ => rfl)) ?_))
  all_goals (refine ASL.light rfl rfl (opMove (v := .int _ _) rfl rfl) ?_)
  all_goals (refine ASL.callP rfl rfl rfl rfl call_84 (laws_szIntS _ _ (by omega) (by omega)) rfl ?_; rintro _ rfl)
  all_goals (refine ASL.light rfl rfl (opAssign (v := .int _ _) rfl rfl) ?_)
  all_goals (refine ASL.done ?_)
  all_goals (refine AWP.seq ?_)
  all_goals (refine AWP.seqR rfl ?_)
  all_goals (refine ASL.light rfl rfl (opMove (v := .int _ _) rfl rfl) ?_)
  all_goals (refine ASL.dec rfl rfl (opInt rfl rfl rfl rfl) ?_ ?_ <;> intro h10)
  all_goals (refine ASL.done ?_)
  all_goals (first
    | (
      refine AWP.condF rfl ?_
      all_goals (refine AWP.skip ?_)
      all_goals (refine AWP.seqR rfl ?_)
      all_goals (refine ASL.light rfl rfl (opMove (v := .int _ _) rfl rfl) ?_)
      all_goals (refine ASL.light rfl rfl (opAssign (v := .int _ _) rfl rfl) ?_)
      all_goals (refine ASL.done ?_)
      all_goals (refine AWP.ret ?_)
      all_goals (repeat with_reducible refine QThen.ret1 ?_)
      all_goals (first | exact QRet.int rfl rfl rfl (by rw [if_neg (by omega)]) | exact QRet.int rfl rfl rfl (by rw [if_pos (by omega)]) | exact QRet.int rfl rfl rfl (by split <;> omega)))
    | (
      refine AWP.condT rfl ?_
      all_goals (refine AWP.seqR rfl ?_)
      all_goals (refine ASL.light rfl rfl (opAssign (v := .int _ _) rfl rfl) ?_)
      all_goals (refine ASL.done ?_)
      all_goals (refine AWP.ret ?_)
      all_goals (repeat with_reducible refine QThen.ret1 ?_)
      all_goals (first | exact QRet.int rfl rfl rfl (by rw [if_neg (by omega)]) | exact QRet.int rfl rfl rfl (by rw [if_pos (by omega)]) | exact QRet.int rfl rfl rfl (by split <;> omega))))

set_option maxRecDepth 10000 in
theorem laws_eqRankState (r q : RankD) (hx : r.r.length ≤ 1048576) : PC Try.prog 44 [rankA r, rankA q] (fun v => v = .bool (decide (r = q))) := by
  refine PC.enter Try.func44 rfl Try.ntmps44 (by simp) ?_
  all_goals (refine AWP.seqR rfl ?_)
  all_goals (refine ASL.boxI rfl rfl rfl rfl rfl ?_)
  all_goals (refine ASL.boxI rfl rfl rfl rfl rfl ?_)
  all_goals (refine ASL.light rfl rfl (opAssign (v := .bool _) rfl rfl) ?_)
  all_goals (refine ASL.done ?_)
  all_goals (refine AWP.seq ?_)
  all_goals (refine AWP.seqR rfl ?_)
  all_goals (first | (refine ASL.light rfl rfl (opFieldAddrR rfl fieldA_63_0 rfl rfl) ?_) | (refine ASL.light rfl rfl (opFieldAddr rfl fieldA_63_0 rfl rfl) ?_))
  all_goals (first | (refine ASL.light rfl rfl (opLoadR (v := .list _ _) rfl aggA_22 rfl rfl) ?_) | (refine ASL.light rfl rfl (opLoadR (v := .slc _ _ _ _) rfl aggA_22 rfl rfl) ?_) | (refine ASL.light rfl rfl (opLoadR (v := .nil) rfl aggA_22 rfl rfl) ?_) | (refine ASL.light rfl rfl (opLoadOwnM rfl aggA_22 rfl (by assumption) (by first | omega | (simp; omega)) (fun _ => rfl)) ?_))
  all_goals (first | (refine ASL.light rfl rfl (opFieldAddrR rfl fieldA_63_0 rfl rfl) ?_) | (refine ASL.light rfl rfl (opFieldAddr rfl fieldA_63_0 rfl rfl) ?_))
  all_goals (first | (refine ASL.light rfl rfl (opLoadR (v := .list _ _) rfl aggA_22 rfl rfl) ?_) | (refine ASL.light rfl rfl (opLoadR (v := .slc _ _ _ _) rfl aggA_22 rfl rfl) ?_) | (refine ASL.light rfl rfl (opLoadR (v := .nil) rfl aggA_22 rfl rfl) ?_) | (refine ASL.light rfl rfl (opLoadOwnM rfl aggA_22 rfl (by assumption) (by first | omega | (simp; omega)) (fun _ => rfl)) ?_))
  all_goals (refine ASL.callD rfl rfl rfl rfl call_18 (laws_eqIntS _ _ (by omega)) rfl ?_ ?_ <;> intro h9)
  all_goals (refine ASL.light rfl rfl (opNot rfl rfl) ?_)
  all_goals (refine ASL.done ?_)
  all_goals (first
    | (
      refine AWP.condF rfl ?_
      all_goals (refine AWP.skip ?_)
      all_goals (refine AWP.seq ?_)
      all_goals (refine AWP.seqR rfl ?_)
      all_goals (first | (refine ASL.light rfl rfl (opFieldAddrR rfl fieldA_63_1 rfl rfl) ?_) | (refine ASL.light rfl rfl (opFieldAddr rfl fieldA_63_1 rfl rfl) ?_))
      all_goals (first | (refine ASL.light rfl rfl (opLoadR (v := .int _ _) rfl aggA_3 rfl rfl) ?_) | (refine ASL.light rfl rfl (opLoadOwnI rfl aggA_3 rfl (by assumption) (by first | omega | (simp; omega))) ?_))
      all_goals (first | (refine ASL.light rfl rfl (opFieldAddrR rfl fieldA_63_1 rfl rfl) ?_) | (refine ASL.light rfl rfl (opFieldAddr rfl fieldA_63_1 rfl rfl) ?_))
      all_goals (first | (refine ASL.light rfl rfl (opLoadR (v := .int _ _) rfl aggA_3 rfl rfl) ?_) | (refine ASL.light rfl rfl (opLoadOwnI rfl aggA_3 rfl (by assumption) (by first | omega | (simp; omega))) ?_))
      all_goals (refine ASL.dec rfl rfl (opInt rfl rfl rfl rfl) ?_ ?_ <;> intro h15)
      all_goals (refine ASL.done ?_)
      all_goals (first
        | (
          refine AWP.condF rfl ?_
          all_goals (refine AWP.skip ?_)
          all_goals (refine AWP.seqR rfl ?_)
          all_goals (refine ASL.light rfl rfl (opAssign (v := .bool _) rfl rfl) ?_)
          all_goals (refine ASL.done ?_)
          all_goals (refine AWP.ret ?_)
          all_goals (repeat with_reducible refine QThen.ret1 ?_)
          all_goals (exact QRet.bool rfl rfl rfl (by symm; first | (apply decide_eq_false; rintro rfl; first | contradiction | omega | (simp_all; done)) | (apply decide_eq_true; cases r; cases q; simp_all))))
        | (
          refine AWP.condT rfl ?_
          all_goals (refine AWP.seqR rfl ?_)
          all_goals (refine ASL.light rfl rfl (opAssign (v := .bool _) rfl rfl) ?_)
          all_goals (refine ASL.done ?_)
          all_goals (refine AWP.ret ?_)
          all_goals (repeat with_reducible refine QThen.ret1 ?_)
          all_goals (exact QRet.bool rfl rfl rfl (by symm; first | (apply decide_eq_false; rintro rfl; first | contradiction | omega | (simp_all; done)) | (apply decide_eq_true; cases r; cases q; simp_all))))))
    | (
      refine AWP.condT rfl ?_
      all_goals (refine AWP.seqR rfl ?_)
      all_goals (refine ASL.light rfl rfl (opAssign (v := .bool _) rfl rfl) ?_)
      all_goals (refine ASL.done ?_)
      all_goals (refine AWP.ret ?_)
      all_goals (repeat with_reducible refine QThen.ret1 ?_)
      all_goals (exact QRet.bool rfl rfl rfl (by symm; first | (apply decide_eq_false; rintro rfl; first | contradiction | omega | (simp_all; done)) | (apply decide_eq_true; cases r; cases q; simp_all)))))

theorem laws_szAuto_no (a : AutoD) (k : Int) (hk : 0 ≤ k ∧ k ≤ 1048576) (h : (a.es.length : Int) ≤ k) : PC Try.prog 37 [autoA a, .int .i64 k] (fun v => v = .int .i64 (k - (a.es.length : Int))) :=
  (laws_szAuto _ _ (by omega) hk).mono fun v hv => by rw [if_neg (by omega)] at hv; exact hv
theorem laws_szAuto_yes (a : AutoD) (k : Int) (hx : (a.es.length : Int) ≤ 9223372036854775807) (hk : 0 ≤ k ∧ k ≤ 1048576) (h : ¬ (a.es.length : Int) ≤ k) : PC Try.prog 37 [autoA a, .int .i64 k] (fun v => v = .int .i64 (-1)) :=
  (laws_szAuto _ _ (by omega) hk).mono fun v hv => by rw [if_pos (by omega)] at hv; exact hv

theorem laws_szRankState_no (r : RankD) (k : Int) (hk : 0 ≤ k ∧ k ≤ 1048576) (h : (r.r.length : Int) ≤ k) : PC Try.prog 38 [rankA r, .int .i64 k] (fun v => v = .int .i64 (k - (r.r.length : Int))) :=
  (laws_szRankState _ _ (by omega) hk).mono fun v hv => by rw [if_neg (by omega)] at hv; exact hv
theorem laws_szRankState_yes (r : RankD) (k : Int) (hx : (r.r.length : Int) ≤ 9223372036854775807) (hk : 0 ≤ k ∧ k ≤ 1048576) (h : ¬ (r.r.length : Int) ≤ k) : PC Try.prog 38 [rankA r, .int .i64 k] (fun v => v = .int .i64 (-1)) :=
  (laws_szRankState _ _ (by omega) hk).mono fun v hv => by rw [if_pos (by omega)] at hv; exact hv

set_option maxRecDepth 10000 in
theorem laws_FnExactRankOk (a : AutoD) (r : RankD) (hx : a.es.length ≤ 9223372036854775807) (hy : r.r.length ≤ 9223372036854775807) : PC Try.prog 8 [autoA a, rankA r] (fun v => v = .bool true) := by
  refine PC.enter Try.func8 rfl Try.ntmps8 (by simp) ?_
  by_cases hz : a.es.length ≤ 1048576 <;> by_cases hz2 : a.es.length + r.r.length ≤ 1048576
  all_goals (refine AWP.seqR rfl ?_)
  all_goals (refine ASL.boxI rfl rfl rfl rfl rfl ?_)
  all_goals (refine ASL.boxI rfl rfl rfl rfl rfl ?_)
  all_goals (refine ASL.light rfl rfl (opAssign (v := .bool _) rfl rfl) ?_)
  all_goals (refine ASL.done ?_)
  all_goals (refine AWP.seqR rfl ?_)
  all_goals (refine ASL.light rfl rfl (opAssign (v := .int _ _) rfl rfl) ?_)
  all_goals (refine ASL.done ?_)
  all_goals (refine AWP.seqR rfl ?_)
  all_goals (refine ASL.light rfl rfl (opLoadRA rfl aggA_47 sizeA_47 rfl (by first | exact Nat.le_of_ble_eq_true rfl | (simp; done)) rfl) ?_)
  all_goals (refine ASL.light rfl rfl (opMove (v := .int _ _) rfl rfl) ?_)
  all_goals (first | (refine ASL.callP rfl rfl rfl rfl call_37 (laws_szAuto_no _ _ (by omega) (by omega)) rfl ?_; rintro _ rfl) | (refine ASL.callP rfl rfl rfl rfl call_37 (laws_szAuto_yes _ _ (by omega) (by omega) (by omega)) rfl ?_; rintro _ rfl))
  all_goals (refine ASL.light rfl rfl (opAssign (v := .int _ _) rfl rfl) ?_)
  all_goals (refine ASL.done ?_)
  all_goals (refine AWP.seq ?_)
  all_goals (refine AWP.seqR rfl ?_)
  all_goals (refine ASL.light rfl rfl (opMove (v := .int _ _) rfl rfl) ?_)
  all_goals (refine ASL.dec rfl rfl (opInt rfl rfl rfl rfl) ?_ ?_ <;> intro h14)
  all_goals (refine ASL.done ?_)
  all_goals (first
    | (
      refine AWP.condF rfl ?_
      all_goals (refine AWP.skip ?_)
      all_goals (refine AWP.seqR rfl ?_)
      all_goals (refine ASL.light rfl rfl (opLoadRA rfl aggA_58 sizeA_58 rfl (by first | exact Nat.le_of_ble_eq_true rfl | (simp; done)) rfl) ?_)
      all_goals (refine ASL.light rfl rfl (opMove (v := .int _ _) rfl rfl) ?_)
      all_goals (first | (refine ASL.callP rfl rfl rfl rfl call_38 (laws_szRankState_no _ _ (by omega) (by omega)) rfl ?_; rintro _ rfl) | (refine ASL.callP rfl rfl rfl rfl call_38 (laws_szRankState_yes _ _ (by omega) (by omega) (by omega)) rfl ?_; rintro _ rfl))
      all_goals (refine ASL.light rfl rfl (opAssign (v := .int _ _) rfl rfl) ?_)
      all_goals (refine ASL.done ?_)
      all_goals (refine AWP.seq ?_)
      all_goals (refine AWP.seqR rfl ?_)
      all_goals (refine ASL.light rfl rfl (opMove (v := .int _ _) rfl rfl) ?_)
      all_goals (refine ASL.dec rfl rfl (opInt rfl rfl rfl rfl) ?_ ?_ <;> intro h19)
      all_goals (refine ASL.done ?_)
      all_goals (first
        | (
          refine AWP.condF rfl ?_
          all_goals (refine AWP.skip ?_)
          all_goals (refine AWP.seqD [(0, false), (1, false), (2, false), (3, false), (4, false), (5, false)] mixed (by kernel_rfl) rfl ?_)
          all_goals (refine ARL.light0 rfl rfl rfl (opLoadRA rfl aggA_47 sizeA_47 rfl (by first | exact Nat.le_of_ble_eq_true rfl | (simp; done)) rfl) ?_)
          all_goals (refine ARL.callP rfl rfl rfl rfl call_40 (laws_toAuto _ (by omega)) rfl ?_; rintro _ rfl)
          all_goals (refine ARL.light0 rfl rfl rfl (opLoadRA rfl aggA_58 sizeA_58 rfl (by first | exact Nat.le_of_ble_eq_true rfl | (simp; done)) rfl) ?_)
          all_goals (refine ARL.callP rfl rfl rfl rfl call_41 (laws_toRankState _ (by omega)) rfl ?_; rintro _ rfl)
          all_goals (refine ARL.callB rfl rfl rfl rfl call_39 (spec_RankOk _ _ (by omega) (by omega)) rfl ?_ ?_ <;> intro h24)
          all_goals (refine ARL.light0 rfl rfl rfl (opAssign (v := .bool _) rfl rfl) ?_)
          all_goals (refine ARL.done ?_)
          all_goals (refine AWP.seqR rfl ?_)
          all_goals (refine ASL.light rfl rfl (opLoadRA rfl aggA_47 sizeA_47 rfl (by first | exact Nat.le_of_ble_eq_true rfl | (simp; done)) rfl) ?_)
          all_goals (refine ASL.callP rfl rfl rfl rfl call_40 (laws_toAuto _ (by omega)) rfl ?_; rintro _ rfl)
          all_goals (refine ASL.heavy1 rfl rfl (opAllocAt rfl zeroA_35 ?_); rintro b7 G7 hT7 hK7 hN7)
          all_goals (refine ASL.store rfl rfl (opStoreAtA rfl sizeA_35 rfl rfl hT7 rfl (by first | rfl | (simp [cells]; done)) (by first | rfl | (simp [cells]; done)) (Nat.le_of_ble_eq_true rfl) ?_); rintro Gs1 hT7 hB1)
          all_goals (refine ASL.done ?_)
          all_goals (refine AWP.seqR rfl ?_)
          all_goals (refine ASL.light rfl rfl (opLoadRA rfl aggA_58 sizeA_58 rfl (by first | exact Nat.le_of_ble_eq_true rfl | (simp; done)) rfl) ?_)
          all_goals (refine ASL.callP rfl rfl rfl rfl call_41 (laws_toRankState _ (by omega)) rfl ?_; rintro _ rfl)
          all_goals (refine ASL.heavy1 rfl rfl (opAllocAt rfl zeroA_63 ?_); rintro b8 G8 hT8 hK8 hN8; try (have hD8_7 := At.ne hT7 hN8); try (have hT7 := At.grow hT7 hK8))
          all_goals (refine ASL.store rfl rfl (opStoreAtA rfl sizeA_63 rfl rfl hT8 rfl (by first | rfl | (simp [cells]; done)) (by first | rfl | (simp [cells]; done)) (Nat.le_of_ble_eq_true rfl) ?_); rintro Gs2 hT8 hB2; try (have hT7 := At.near hT7 hB2 (by first | assumption | exact Ne.symm (by assumption))))
          all_goals (refine ASL.done ?_)
          all_goals (refine AWP.seqR rfl ?_)
          all_goals (refine ASL.light rfl rfl (opLoadAtA rfl aggA_35 sizeA_35 rfl hT7 (Nat.le_of_ble_eq_true rfl)) ?_)
          all_goals (refine ASL.light rfl rfl (opLoadAtA rfl aggA_63 sizeA_63 rfl hT8 (Nat.le_of_ble_eq_true rfl)) ?_)
          all_goals (refine ASL.callB rfl rfl rfl rfl call_42 (impl_RankOk _ _ (by omega) (by omega)) rfl ?_ ?_ <;> intro h31)
          all_goals (refine ASL.light rfl rfl (opAssign (v := .bool _) rfl rfl) ?_)
          all_goals (refine ASL.done ?_)
          all_goals (refine AWP.seq ?_)
          all_goals (refine AWP.seqR rfl ?_)
          all_goals (refine ASL.light rfl rfl (opMove (v := .bool _) rfl rfl) ?_)
          all_goals (refine ASL.light rfl rfl (opMove (v := .bool _) rfl rfl) ?_)
          all_goals (refine ASL.bool rfl rfl (opBoolEq rfl rfl rfl und_4 rfl) ?_ ?_ <;> intro h34)
          all_goals (refine ASL.done ?_)
          all_goals (first
            | (
              refine AWP.condF rfl ?_
              all_goals (refine AWP.skip ?_)
              all_goals (refine AWP.seq ?_)
              all_goals (refine AWP.seqD [(0, false), (1, false), (2, false), (3, false), (4, false)] mixed (by kernel_rfl) rfl ?_)
              all_goals (refine ARL.light rfl rfl rfl (opLoadAtA rfl aggA_35 sizeA_35 rfl hT7 (Nat.le_of_ble_eq_true rfl)) (by intro b_ hb_; rw [List.mem_singleton.mp hb_]; exact At.alive hT7) ?_)
              all_goals (refine ARL.light0 rfl rfl rfl (opLoadRA rfl aggA_47 sizeA_47 rfl (by first | exact Nat.le_of_ble_eq_true rfl | (simp; done)) rfl) ?_)
              all_goals (refine ARL.callP rfl rfl rfl rfl call_40 (laws_toAuto _ (by omega)) rfl ?_; rintro _ rfl)
              all_goals (refine ARL.callD rfl rfl rfl rfl call_43 (laws_eqAuto _ _ (by omega)) rfl ?_ ?_ <;> intro h38)
              all_goals (refine ARL.light0 rfl rfl rfl (opNot rfl rfl) ?_)
              all_goals (refine ARL.done ?_)
              all_goals (first
                | (
                  refine AWP.condF rfl ?_
                  all_goals (refine AWP.skip ?_)
                  all_goals (refine AWP.seq ?_)
                  all_goals (refine AWP.seqD [(0, false), (1, false), (2, false), (3, false), (4, false)] mixed (by kernel_rfl) rfl ?_)
                  all_goals (refine ARL.light rfl rfl rfl (opLoadAtA rfl aggA_63 sizeA_63 rfl hT8 (Nat.le_of_ble_eq_true rfl)) (by intro b_ hb_; rw [List.mem_singleton.mp hb_]; exact At.alive hT8) ?_)
                  all_goals (refine ARL.light0 rfl rfl rfl (opLoadRA rfl aggA_58 sizeA_58 rfl (by first | exact Nat.le_of_ble_eq_true rfl | (simp; done)) rfl) ?_)
                  all_goals (refine ARL.callP rfl rfl rfl rfl call_41 (laws_toRankState _ (by omega)) rfl ?_; rintro _ rfl)
                  all_goals (refine ARL.callD rfl rfl rfl rfl call_44 (laws_eqRankState _ _ (by omega)) rfl ?_ ?_ <;> intro h43)
                  all_goals (refine ARL.light0 rfl rfl rfl (opNot rfl rfl) ?_)
                  all_goals (refine ARL.done ?_)
                  all_goals (first
                    | (
                      refine AWP.condF rfl ?_
                      all_goals (refine AWP.skip ?_)
                      all_goals (refine AWP.seqR rfl ?_)
                      all_goals (refine ASL.light rfl rfl (opAssign (v := .bool _) rfl rfl) ?_)
                      all_goals (refine ASL.done ?_)
                      all_goals (refine AWP.ret ?_)
                      all_goals (repeat with_reducible refine QThen.ret1 ?_)
                      all_goals (exact QRet.bool rfl rfl rfl (by first | rfl | (exfalso; first | omega | contradiction | (simp_all; done)))))
                    | (
                      refine AWP.condT rfl ?_
                      all_goals (refine AWP.seqR rfl ?_)
                      all_goals (refine ASL.light rfl rfl (opAssign (v := .bool _) rfl rfl) ?_)
                      all_goals (refine ASL.done ?_)
                      all_goals (refine AWP.ret ?_)
                      all_goals (repeat with_reducible refine QThen.ret1 ?_)
                      all_goals (exact QRet.bool rfl rfl rfl (by first | rfl | (exfalso; first | omega | contradiction | (simp_all; done)))))))
                | (
                  refine AWP.condT rfl ?_
                  all_goals (refine AWP.seqR rfl ?_)
                  all_goals (refine ASL.light rfl rfl (opAssign (v := .bool _) rfl rfl) ?_)
                  all_goals (refine ASL.done ?_)
                  all_goals (refine AWP.ret ?_)
                  all_goals (repeat with_reducible refine QThen.ret1 ?_)
                  all_goals (exact QRet.bool rfl rfl rfl (by first | rfl | (exfalso; first | omega | contradiction | (simp_all; done)))))))
            | (
              refine AWP.condT rfl ?_
              all_goals (refine AWP.seqR rfl ?_)
              all_goals (refine ASL.light rfl rfl (opAssign (v := .bool _) rfl rfl) ?_)
              all_goals (refine ASL.done ?_)
              all_goals (refine AWP.ret ?_)
              all_goals (repeat with_reducible refine QThen.ret1 ?_)
              all_goals (exact QRet.bool rfl rfl rfl (by first | rfl | (exfalso; first | omega | contradiction | (simp_all; done)))))))
        | (
          refine AWP.condT rfl ?_
          all_goals (refine AWP.seqR rfl ?_)
          all_goals (refine ASL.light rfl rfl (opAssign (v := .bool _) rfl rfl) ?_)
          all_goals (refine ASL.done ?_)
          all_goals (refine AWP.ret ?_)
          all_goals (repeat with_reducible refine QThen.ret1 ?_)
          all_goals (exact QRet.bool rfl rfl rfl (by first | rfl | (exfalso; first | omega | contradiction | (simp_all; done)))))))
    | (
      refine AWP.condT rfl ?_
      all_goals (refine AWP.seqR rfl ?_)
      all_goals (refine ASL.light rfl rfl (opAssign (v := .bool _) rfl rfl) ?_)
      all_goals (refine ASL.done ?_)
      all_goals (refine AWP.ret ?_)
      all_goals (repeat with_reducible refine QThen.ret1 ?_)
      all_goals (exact QRet.bool rfl rfl rfl (by first | rfl | (exfalso; first | omega | contradiction | (simp_all; done))))))

theorem rank_of {a : AV} (h : OkA Try.prog 58 a) : ∃ d : RankD, a = rankA d ∧ d.r.length ≤ Go.maxLen := by
  obtain ⟨ys, rfl, hl, n, hf⟩ := h.struct Try.underlying58
  rw [cellsOf_58] at hl
  have hf : ∀ f ∈ [(22, 0, 1), (3, 1, 1)], OkT Try.prog n f.1 ((ys.drop f.2.1).take f.2.2) := by
    intro f hm
    simp only [List.mem_cons, List.not_mem_nil, or_false] at hm
    rcases hm with rfl | rfl
    · have q := hf _ (List.mem_of_getElem? (i := 0) rfl); dsimp only at q; rw [cellsOf_22] at q; exact q
    · have q := hf _ (List.mem_of_getElem? (i := 1) rfl); dsimp only at q; rw [cellsOf_3] at q; exact q
  obtain ⟨x0, r0, rfl, hl0⟩ := consOf hl
  obtain ⟨x1, r1, rfl, hl1⟩ := consOf hl0
  obtain rfl := List.eq_nil_of_length_eq_zero hl1
  have f0 := hf _ (List.mem_of_getElem? (i := 0) rfl)
  obtain ⟨v0, rfl, k0, _⟩ := (OkT.A aggA_22 f0).ints elemA_22 Try.underlying3 cellsOf_3
  have f1 := hf _ (List.mem_of_getElem? (i := 1) rfl)
  obtain ⟨v1, rfl, _⟩ := (OkT.A aggA_3 f1).int Try.underlying3
  exact ⟨⟨v0, v1⟩, rfl, k0⟩

end Go.Proofs.Ytcmlckgdhnffmaa
