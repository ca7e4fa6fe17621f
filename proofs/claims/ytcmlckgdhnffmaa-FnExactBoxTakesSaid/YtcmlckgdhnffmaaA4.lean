/- The contracts of some of the program's functions: A4. -/
import Derived.Test.YtcmlckgdhnffmaaA3
import Derived.Test.YtcmlckgdhnffmaaE12
import Derived.Test.YtcmlckgdhnffmaaProg
namespace Go.Proofs.Ytcmlckgdhnffmaa
open Go Go.RowKit E
set_option linter.unusedVariables false

structure EdgeD where
  p : Int
  l : Int
  q : Int
  g : Bool
  deriving Inhabited, DecidableEq
structure AutoD where
  l : Int
  n : Int
  s : Int
  es : List EdgeD
  deriving Inhabited, DecidableEq
def edgeA (e : EdgeD) : AV := .agg [.int .i64 e.p, .int .i64 e.l, .int .i64 e.q, .bool e.g]
def autoA (a : AutoD) : AV := .agg [.int .i64 a.l, .int .i64 a.n, .int .i64 a.s, .list 4 (a.es.map edgeA)]
abbrev edgeLt (e f : EdgeD) : Prop := e.p < f.p ∨ e.p = f.p ∧ (e.l < f.l ∨ e.l = f.l ∧ e.q < f.q)
abbrev setIn (a b : Int) : Prop := (0 ≤ a ∧ a ≤ 2147483647) ∧ (0 ≤ b ∧ b ≤ 2147483647) ∧ a.toNat &&& b.toNat = a.toNat
abbrev headP (a : AutoD) : Prop := (1 ≤ a.l ∧ a.l ≤ 8) ∧ (0 ≤ a.n ∧ a.n ≤ 31) ∧ (0 ≤ a.s ∧ a.s < ((2 ^ a.n.toNat : Nat) : Int)) ∧ a.es.length ≤ 2000
abbrev edgeP (a : AutoD) (j : Nat) : Prop := (0 ≤ (a.es.getD j default).p ∧ (a.es.getD j default).p ≤ a.n - 1) ∧ (0 ≤ (a.es.getD j default).q ∧ (a.es.getD j default).q ≤ a.n - 1) ∧ (0 ≤ (a.es.getD j default).l ∧ (a.es.getD j default).l ≤ a.l - 1) ∧ (0 < j → edgeLt (a.es.getD (j - 1) default) (a.es.getD j default))
def autoOk (a : AutoD) : Bool := decide (headP a) && (List.range a.es.length).all fun j => decide (edgeP a j)
theorem autoOk_head {a : AutoD} (h : ¬ headP a) : false = autoOk a := by unfold autoOk; rw [decide_eq_false h]; rfl
theorem autoOk_edge {a : AutoD} {j : Nat} (hj : j < a.es.length) (h : ¬ edgeP a j) : false = autoOk a := by
  have : ((List.range a.es.length).all fun j => decide (edgeP a j)) = false := by
    rw [← Bool.not_eq_true, List.all_eq_true]; intro k; exact h (of_decide_eq_true (k j (List.mem_range.mpr hj)))
  unfold autoOk; rw [this, Bool.and_false]
theorem autoOk_all {a : AutoD} (h : headP a) (k : ∀ j, j < a.es.length → edgeP a j) : true = autoOk a := by
  unfold autoOk; rw [decide_eq_true h]
  symm; rw [Bool.true_and, List.all_eq_true]; intro j hj; exact decide_eq_true (k j (List.mem_range.mp hj))
theorem headNo {a : AutoD} (h : ¬ ((1 ≤ a.l ∧ a.l ≤ 8) ∧ (0 ≤ a.n ∧ a.n ≤ 31) ∧ (0 ≤ a.s ∧ a.s < ((2 ^ a.n.toNat : Nat) : Int)))) : ¬ headP a := fun k => h ⟨k.1, k.2.1, k.2.2.1⟩
theorem edgeP_next {a : AutoD} {i : Nat} (h : ∀ j, j < i → edgeP a j) (k : edgeP a i) : ∀ j, j < i + 1 → edgeP a j := fun j hj => by
  by_cases e : j = i
  · subst e; exact k
  · exact h j (by omega)
theorem pow31 {n : Int} (h : 0 ≤ n ∧ n ≤ 31) : 1 ≤ 2 ^ n.toNat ∧ 2 ^ n.toNat ≤ 2147483648 := by
  have : n.toNat ≤ 31 := by omega
  have h2 : 2 ^ n.toNat ≤ 2 ^ 31 := Nat.pow_le_pow_right (by omega) this
  have h1 : 0 < 2 ^ n.toNat := Nat.two_pow_pos _
  omega
theorem setIn_pow {a n : Int} (h : 0 ≤ n ∧ n ≤ 31) : setIn a (((2 ^ n.toNat : Nat) : Int) - 1) ↔ 0 ≤ a ∧ a < ((2 ^ n.toNat : Nat) : Int) := by
  have hp := pow31 h
  have e : (((2 ^ n.toNat : Nat) : Int) - 1).toNat = 2 ^ n.toNat - 1 := by omega
  unfold setIn
  rw [e, Nat.and_two_pow_sub_one_eq_mod]
  constructor
  · rintro ⟨h1, h2, h3⟩
    refine ⟨h1.1, ?_⟩
    have := Nat.mod_lt a.toNat (show 2 ^ n.toNat > 0 by omega)
    omega
  · rintro ⟨h1, h2⟩
    exact ⟨⟨h1, by omega⟩, ⟨by omega, by omega⟩, Nat.mod_eq_of_lt (by omega)⟩
def cmpI (a b : Int) : Int := if a < b then -1 else if a > b then 1 else 0
def orI : List Int → Int
  | [] => 0
  | x :: r => if x ≠ 0 then x else orI r
theorem orI_hit {xs : List Int} {i : Nat} (hi : i < xs.length) (h : orI xs = orI (xs.drop i)) (k : xs.getD i 0 ≠ 0) : xs.getD i 0 = orI xs := by
  rw [h, List.drop_eq_getElem_cons hi, orI, if_pos (by simpa [hi] using k)]; simp [hi]
theorem orI_miss {xs : List Int} {i : Nat} (hi : i < xs.length) (h : orI xs = orI (xs.drop i)) (k : ¬ xs.getD i 0 ≠ 0) : orI xs = orI (xs.drop (i + 1)) := by
  rw [h, List.drop_eq_getElem_cons hi, orI, if_neg (by simpa [hi] using k)]
theorem orI_end {xs : List Int} {i : Nat} (hi : ¬ i < xs.length) (h : orI xs = orI (xs.drop i)) : 0 = orI xs := by
  rw [h, List.drop_eq_nil_of_le (by omega)]; rfl
def cmpE (e f : EdgeD) : Int := orI [cmpI e.p f.p, cmpI e.l f.l, cmpI e.q f.q]
theorem cmpI_cases (a b : Int) : (a < b ∧ cmpI a b = -1) ∨ (a = b ∧ cmpI a b = 0) ∨ (a > b ∧ cmpI a b = 1) := by
  unfold cmpI
  by_cases h : a < b
  · rw [if_pos h]; exact .inl ⟨h, rfl⟩
  · rw [if_neg h]
    by_cases k : a > b
    · rw [if_pos k]; exact .inr (.inr ⟨k, rfl⟩)
    · rw [if_neg k]; exact .inr (.inl ⟨by omega, rfl⟩)
theorem cmpE_lt (e f : EdgeD) : cmpE e f < 0 ↔ edgeLt e f := by
  unfold cmpE edgeLt
  simp only [orI]
  rcases cmpI_cases e.p f.p with ⟨h1, k1⟩ | ⟨h1, k1⟩ | ⟨h1, k1⟩ <;> rcases cmpI_cases e.l f.l with ⟨h2, k2⟩ | ⟨h2, k2⟩ | ⟨h2, k2⟩ <;> rcases cmpI_cases e.q f.q with ⟨h3, k3⟩ | ⟨h3, k3⟩ | ⟨h3, k3⟩ <;>
    rw [k1, k2, k3] <;> simp <;> omega

theorem call_110 : callable Try.prog 110 = true := by kernel_rfl
theorem fieldA_96_0 : fieldA Try.prog 96 0 = some 0 := by kernel_rfl
theorem fieldA_96_1 : fieldA Try.prog 96 1 = some 1 := by kernel_rfl
theorem fieldA_96_2 : fieldA Try.prog 96 2 = some 2 := by kernel_rfl
theorem zeroA_96 : zeroA Try.prog 96 = some (.agg #[(.int .i64 0), (.int .i64 0), (.int .i64 0), (.bool false)]) := by kernel_rfl
theorem sizeA_96 : sizeA Try.prog 96 = some 4 := by kernel_rfl
theorem fieldA_35_0 : fieldA Try.prog 35 0 = some 0 := by kernel_rfl
theorem fieldA_35_1 : fieldA Try.prog 35 1 = some 1 := by kernel_rfl
theorem fieldA_35_2 : fieldA Try.prog 35 2 = some 2 := by kernel_rfl
theorem call_71 : callable Try.prog 71 = true := by kernel_rfl
theorem fieldA_35_3 : fieldA Try.prog 35 3 = some 3 := by kernel_rfl
theorem aggA_33 : aggA Try.prog 33 = some false := by kernel_rfl
theorem lenT_33 : lenT Try.prog 33 = some false := by kernel_rfl
theorem elemA_33 : elemA Try.prog 33 = some 96 := by kernel_rfl
theorem aggA_96 : aggA Try.prog 96 = some true := by kernel_rfl
theorem call_72 : callable Try.prog 72 = true := by kernel_rfl
theorem call_73 : callable Try.prog 73 = true := by kernel_rfl
theorem und_3 : Try.prog.underlying 3 = some (.int .i64) := by kernel_rfl
theorem und_138 : Try.prog.underlying 138 = some (.int .u64) := by kernel_rfl
theorem call_133 : callable Try.prog 133 = true := by kernel_rfl
theorem call_81 : callable Try.prog 81 = true := by kernel_rfl
theorem call_82 : callable Try.prog 82 = true := by kernel_rfl
theorem call_143 : callable Try.prog 143 = true := by kernel_rfl
theorem call_134 : callable Try.prog 134 = true := by kernel_rfl
theorem call_135 : callable Try.prog 135 = true := by kernel_rfl
theorem call_111 : callable Try.prog 111 = true := by kernel_rfl
theorem call_112 : callable Try.prog 112 = true := by kernel_rfl
set_option maxRecDepth 10000 in
theorem spec_SetOk (s : Int) : PC Try.prog 110 [.int .i64 s] (fun v => v = .bool (decide (0 ≤ s ∧ s ≤ 2147483647))) := by
  refine PC.enter Try.func110 rfl Try.ntmps110 (by simp) ?_
  all_goals (refine AWP.seqR rfl ?_)
  all_goals (refine ASL.light rfl rfl (opAssign (v := .bool _) rfl rfl) ?_)
  all_goals (refine ASL.done ?_)
  all_goals (refine AWP.seqR rfl ?_)
  all_goals (refine ASL.light rfl rfl (opMove (v := .int _ _) rfl rfl) ?_)
  all_goals (refine ASL.callD rfl rfl rfl rfl call_63 (spec_l1In _ _ _) rfl ?_ ?_ <;> intro h4)
  all_goals (refine ASL.light rfl rfl (opAssign (v := .bool _) rfl rfl) ?_)
  all_goals (refine ASL.done ?_)
  all_goals (refine AWP.ret ?_)
  all_goals (repeat with_reducible refine QThen.ret1 ?_)
  all_goals (exact QRet.bool rfl rfl rfl (by (first | rfl | (rw [decide_eq_decide]; omega) | (exact (decide_eq_true (by omega)).symm) | (exact (decide_eq_false (by omega)).symm))))

set_option maxRecDepth 10000 in
theorem impl_SetOk (s : Int) : PC Try.prog 81 [.int .i64 s] (fun v => v = .bool (decide (0 ≤ s ∧ s ≤ 2147483647))) := by
  refine PC.enter Try.func81 rfl Try.ntmps81 (by simp) ?_
  all_goals (refine AWP.seqR rfl ?_)
  all_goals (refine ASL.light rfl rfl (opAssign (v := .bool _) rfl rfl) ?_)
  all_goals (refine ASL.done ?_)
  all_goals (refine AWP.seqR rfl ?_)
  all_goals (refine ASL.light rfl rfl (opMove (v := .int _ _) rfl rfl) ?_)
  all_goals (refine ASL.callD rfl rfl rfl rfl call_65 (impl_inRange _ _ _) rfl ?_ ?_ <;> intro h4)
  all_goals (refine ASL.light rfl rfl (opAssign (v := .bool _) rfl rfl) ?_)
  all_goals (refine ASL.done ?_)
  all_goals (refine AWP.ret ?_)
  all_goals (repeat with_reducible refine QThen.ret1 ?_)
  all_goals (exact QRet.bool rfl rfl rfl (by (first | rfl | (rw [decide_eq_decide]; omega) | (exact (decide_eq_true (by omega)).symm) | (exact (decide_eq_false (by omega)).symm))))

set_option maxRecDepth 10000 in
theorem spec_SetIn (a b : Int) : PC Try.prog 71 [.int .i64 a, .int .i64 b] (fun v => v = .bool (decide (setIn a b))) := by
  refine PC.enter Try.func71 rfl Try.ntmps71 (by simp) ?_
  all_goals (refine AWP.seqR rfl ?_)
  all_goals (refine ASL.light rfl rfl (opAssign (v := .bool _) rfl rfl) ?_)
  all_goals (refine ASL.done ?_)
  all_goals (refine AWP.seqR rfl ?_)
  all_goals (refine ASL.light rfl rfl (opMove (v := .int _ _) rfl rfl) ?_)
  all_goals (refine ASL.callD rfl rfl rfl rfl call_110 (spec_SetOk _) rfl ?_ ?_ <;> intro h6)
  all_goals (refine ASL.light rfl rfl (opMove (v := .bool _) rfl rfl) ?_)
  all_goals (first | (refine ASL.off rfl rfl ?_) | (refine ASL.light rfl rfl (opMove (v := .int _ _) rfl rfl) ?_))
  all_goals (first | (refine ASL.off rfl rfl ?_) | (refine ASL.callD rfl rfl rfl rfl call_110 (spec_SetOk _) rfl ?_ ?_ <;> intro h9))
  all_goals (refine ASL.light rfl rfl (opPick (v := .bool _) rfl rfl rfl) ?_)
  all_goals (refine ASL.light rfl rfl (opMove (v := .bool _) rfl rfl) ?_)
  all_goals (first | (refine ASL.off rfl rfl ?_) | (refine ASL.light rfl rfl (opMove (v := .int _ _) rfl rfl) ?_))
  all_goals (first | (refine ASL.off rfl rfl ?_) | (refine ASL.light rfl rfl (opMove (v := .int _ _) rfl rfl) ?_))
  all_goals (first | (refine ASL.off rfl rfl ?_) | (refine ASL.light rfl rfl (opAndN rfl rfl rfl (by omega) (by omega)) ?_))
  all_goals (first | (refine ASL.off rfl rfl ?_) | (refine ASL.light rfl rfl (opMove (v := .int _ _) rfl rfl) ?_))
  all_goals (first | (refine ASL.off rfl rfl ?_) | (refine ASL.light rfl rfl (opInt rfl rfl rfl rfl) ?_))
  all_goals (refine ASL.light rfl rfl (opPick (v := .bool _) rfl rfl rfl) ?_)
  all_goals (refine ASL.light rfl rfl (opAssign (v := .bool _) rfl rfl) ?_)
  all_goals (refine ASL.done ?_)
  all_goals (refine AWP.ret ?_)
  all_goals (repeat with_reducible refine QThen.ret1 ?_)
  all_goals (exact QRet.bool rfl rfl rfl (by symm; first | (apply decide_eq_true; unfold setIn; omega) | (apply decide_eq_false; unfold setIn; omega) | (rw [decide_eq_decide]; unfold setIn; omega)))

set_option maxRecDepth 10000 in
theorem spec_l4State (x n : Int) (hn : -1000000 ≤ n ∧ n ≤ 1000000) : PC Try.prog 72 [.int .i64 x, .int .i64 n] (fun v => v = .bool (decide (0 ≤ x ∧ x ≤ n - 1))) := by
  refine PC.enter Try.func72 rfl Try.ntmps72 (by simp) ?_
  all_goals (refine AWP.seqR rfl ?_)
  all_goals (refine ASL.light rfl rfl (opAssign (v := .bool _) rfl rfl) ?_)
  all_goals (refine ASL.done ?_)
  all_goals (refine AWP.seqR rfl ?_)
  all_goals (refine ASL.light rfl rfl (opMove (v := .int _ _) rfl rfl) ?_)
  all_goals (refine ASL.light rfl rfl (opMove (v := .int _ _) rfl rfl) ?_)
  all_goals (first | (refine ASL.light rfl rfl (opSub rfl rfl rfl (by omega)) ?_) | (refine ASL.light rfl rfl (opInt rfl rfl rfl rfl) ?_))
  all_goals (refine ASL.callD rfl rfl rfl rfl call_63 (spec_l1In _ _ _) rfl ?_ ?_ <;> intro h8)
  all_goals (refine ASL.light rfl rfl (opAssign (v := .bool _) rfl rfl) ?_)
  all_goals (refine ASL.done ?_)
  all_goals (refine AWP.ret ?_)
  all_goals (repeat with_reducible refine QThen.ret1 ?_)
  all_goals (exact QRet.bool rfl rfl rfl (by (first | rfl | (rw [decide_eq_decide]; omega) | (exact (decide_eq_true (by omega)).symm) | (exact (decide_eq_false (by omega)).symm))))

set_option maxRecDepth 10000 in
theorem spec_l4Less (e f : EdgeD) : PC Try.prog 73 [edgeA e, edgeA f] (fun v => v = .bool (decide (edgeLt e f))) := by
  refine PC.enter Try.func73 rfl Try.ntmps73 (by simp) ?_
  all_goals (refine AWP.seqR rfl ?_)
  all_goals (refine ASL.boxI rfl rfl rfl rfl rfl ?_)
  all_goals (refine ASL.boxI rfl rfl rfl rfl rfl ?_)
  all_goals (refine ASL.light rfl rfl (opAssign (v := .bool _) rfl rfl) ?_)
  all_goals (refine ASL.done ?_)
  all_goals (refine AWP.seq ?_)
  all_goals (refine AWP.seqR rfl ?_)
  all_goals (first | (refine ASL.light rfl rfl (opFieldAddrR rfl fieldA_96_0 rfl rfl) ?_) | (refine ASL.light rfl rfl (opFieldAddr rfl fieldA_96_0 rfl rfl) ?_))
  all_goals (first | (refine ASL.light rfl rfl (opLoadR (v := .int _ _) rfl aggA_3 rfl rfl) ?_) | (refine ASL.light rfl rfl (opLoadOwnI rfl aggA_3 rfl (by assumption) (by first | omega | (simp; omega))) ?_))
  all_goals (first | (refine ASL.light rfl rfl (opFieldAddrR rfl fieldA_96_0 rfl rfl) ?_) | (refine ASL.light rfl rfl (opFieldAddr rfl fieldA_96_0 rfl rfl) ?_))
  all_goals (first | (refine ASL.light rfl rfl (opLoadR (v := .int _ _) rfl aggA_3 rfl rfl) ?_) | (refine ASL.light rfl rfl (opLoadOwnI rfl aggA_3 rfl (by assumption) (by first | omega | (simp; omega))) ?_))
  all_goals (refine ASL.dec rfl rfl (opInt rfl rfl rfl rfl) ?_ ?_ <;> intro h9)
  all_goals (refine ASL.done ?_)
  all_goals (first
    | (
      refine AWP.condT rfl ?_
      all_goals (refine AWP.seqR rfl ?_)
      all_goals (first | (refine ASL.light rfl rfl (opFieldAddrR rfl fieldA_96_0 rfl rfl) ?_) | (refine ASL.light rfl rfl (opFieldAddr rfl fieldA_96_0 rfl rfl) ?_))
      all_goals (first | (refine ASL.light rfl rfl (opLoadR (v := .int _ _) rfl aggA_3 rfl rfl) ?_) | (refine ASL.light rfl rfl (opLoadOwnI rfl aggA_3 rfl (by assumption) (by first | omega | (simp; omega))) ?_))
      all_goals (first | (refine ASL.light rfl rfl (opFieldAddrR rfl fieldA_96_0 rfl rfl) ?_) | (refine ASL.light rfl rfl (opFieldAddr rfl fieldA_96_0 rfl rfl) ?_))
      all_goals (first | (refine ASL.light rfl rfl (opLoadR (v := .int _ _) rfl aggA_3 rfl rfl) ?_) | (refine ASL.light rfl rfl (opLoadOwnI rfl aggA_3 rfl (by assumption) (by first | omega | (simp; omega))) ?_))
      all_goals (refine ASL.light rfl rfl (opInt rfl rfl rfl rfl) ?_)
      all_goals (refine ASL.light rfl rfl (opAssign (v := .bool _) rfl rfl) ?_)
      all_goals (refine ASL.done ?_)
      all_goals (refine AWP.ret ?_)
      all_goals (repeat with_reducible refine QThen.ret1 ?_)
      all_goals (exact QRet.bool rfl rfl rfl (by first | (exact (decide_eq_true (by unfold edgeLt; omega)).symm) | (exact (decide_eq_false (by unfold edgeLt; omega)).symm) | (rw [decide_eq_decide]; unfold edgeLt; omega))))
    | (
      refine AWP.condF rfl ?_
      all_goals (refine AWP.skip ?_)
      all_goals (refine AWP.seq ?_)
      all_goals (refine AWP.seqR rfl ?_)
      all_goals (first | (refine ASL.light rfl rfl (opFieldAddrR rfl fieldA_96_1 rfl rfl) ?_) | (refine ASL.light rfl rfl (opFieldAddr rfl fieldA_96_1 rfl rfl) ?_))
      all_goals (first | (refine ASL.light rfl rfl (opLoadR (v := .int _ _) rfl aggA_3 rfl rfl) ?_) | (refine ASL.light rfl rfl (opLoadOwnI rfl aggA_3 rfl (by assumption) (by first | omega | (simp; omega))) ?_))
      all_goals (first | (refine ASL.light rfl rfl (opFieldAddrR rfl fieldA_96_1 rfl rfl) ?_) | (refine ASL.light rfl rfl (opFieldAddr rfl fieldA_96_1 rfl rfl) ?_))
      all_goals (first | (refine ASL.light rfl rfl (opLoadR (v := .int _ _) rfl aggA_3 rfl rfl) ?_) | (refine ASL.light rfl rfl (opLoadOwnI rfl aggA_3 rfl (by assumption) (by first | omega | (simp; omega))) ?_))
      all_goals (refine ASL.dec rfl rfl (opInt rfl rfl rfl rfl) ?_ ?_ <;> intro h19)
      all_goals (refine ASL.done ?_)
      all_goals (first
        | (
          refine AWP.condT rfl ?_
          all_goals (refine AWP.seqR rfl ?_)
          all_goals (first | (refine ASL.light rfl rfl (opFieldAddrR rfl fieldA_96_1 rfl rfl) ?_) | (refine ASL.light rfl rfl (opFieldAddr rfl fieldA_96_1 rfl rfl) ?_))
          all_goals (first | (refine ASL.light rfl rfl (opLoadR (v := .int _ _) rfl aggA_3 rfl rfl) ?_) | (refine ASL.light rfl rfl (opLoadOwnI rfl aggA_3 rfl (by assumption) (by first | omega | (simp; omega))) ?_))
          all_goals (first | (refine ASL.light rfl rfl (opFieldAddrR rfl fieldA_96_1 rfl rfl) ?_) | (refine ASL.light rfl rfl (opFieldAddr rfl fieldA_96_1 rfl rfl) ?_))
          all_goals (first | (refine ASL.light rfl rfl (opLoadR (v := .int _ _) rfl aggA_3 rfl rfl) ?_) | (refine ASL.light rfl rfl (opLoadOwnI rfl aggA_3 rfl (by assumption) (by first | omega | (simp; omega))) ?_))
          all_goals (refine ASL.light rfl rfl (opInt rfl rfl rfl rfl) ?_)
          all_goals (refine ASL.light rfl rfl (opAssign (v := .bool _) rfl rfl) ?_)
          all_goals (refine ASL.done ?_)
          all_goals (refine AWP.ret ?_)
          all_goals (repeat with_reducible refine QThen.ret1 ?_)
          all_goals (exact QRet.bool rfl rfl rfl (by first | (exact (decide_eq_true (by unfold edgeLt; omega)).symm) | (exact (decide_eq_false (by unfold edgeLt; omega)).symm) | (rw [decide_eq_decide]; unfold edgeLt; omega))))
        | (
          refine AWP.condF rfl ?_
          all_goals (refine AWP.skip ?_)
          all_goals (refine AWP.seqR rfl ?_)
          all_goals (first | (refine ASL.light rfl rfl (opFieldAddrR rfl fieldA_96_2 rfl rfl) ?_) | (refine ASL.light rfl rfl (opFieldAddr rfl fieldA_96_2 rfl rfl) ?_))
          all_goals (first | (refine ASL.light rfl rfl (opLoadR (v := .int _ _) rfl aggA_3 rfl rfl) ?_) | (refine ASL.light rfl rfl (opLoadOwnI rfl aggA_3 rfl (by assumption) (by first | omega | (simp; omega))) ?_))
          all_goals (first | (refine ASL.light rfl rfl (opFieldAddrR rfl fieldA_96_2 rfl rfl) ?_) | (refine ASL.light rfl rfl (opFieldAddr rfl fieldA_96_2 rfl rfl) ?_))
          all_goals (first | (refine ASL.light rfl rfl (opLoadR (v := .int _ _) rfl aggA_3 rfl rfl) ?_) | (refine ASL.light rfl rfl (opLoadOwnI rfl aggA_3 rfl (by assumption) (by first | omega | (simp; omega))) ?_))
          all_goals (refine ASL.light rfl rfl (opInt rfl rfl rfl rfl) ?_)
          all_goals (refine ASL.light rfl rfl (opAssign (v := .bool _) rfl rfl) ?_)
          all_goals (refine ASL.done ?_)
          all_goals (refine AWP.ret ?_)
          all_goals (repeat with_reducible refine QThen.ret1 ?_)
          all_goals (exact QRet.bool rfl rfl rfl (by first | (exact (decide_eq_true (by unfold edgeLt; omega)).symm) | (exact (decide_eq_false (by unfold edgeLt; omega)).symm) | (rw [decide_eq_decide]; unfold edgeLt; omega)))))))

set_option maxRecDepth 10000 in
theorem spec_AutoOk (a : AutoD) (hl : a.es.length ≤ 1048576) : PC Try.prog 27 [autoA a] (fun v => v = .bool (autoOk a)) := by
  refine PC.enter Try.func27 rfl Try.ntmps27 (by simp) ?_
  all_goals (refine AWP.seqR rfl ?_)
  all_goals (refine ASL.boxI rfl rfl rfl rfl rfl ?_)
  all_goals (refine ASL.light rfl rfl (opAssign (v := .bool _) rfl rfl) ?_)
  all_goals (refine ASL.done ?_)
  all_goals (refine AWP.seq ?_)
  all_goals (refine AWP.seqD [(0, false), (1, false), (2, false), (3, false), (4, false), (5, false), (6, false), (7, false), (8, false), (9, false), (10, false), (11, false), (12, false), (13, false), (14, false), (15, false), (16, false), (17, false), (18, false), (19, false), (20, false), (21, false), (22, false), (23, false), (24, false), (25, false)] mixed (by kernel_rfl) rfl ?_)
  all_goals (first | (refine ARL.light0 rfl rfl rfl (opFieldAddrR rfl fieldA_35_0 rfl rfl) ?_) | (refine ARL.light0 rfl rfl rfl (opFieldAddr rfl fieldA_35_0 rfl rfl) ?_))
  all_goals (first | (refine ARL.light0 rfl rfl rfl (opLoadR (v := .int _ _) rfl aggA_3 rfl rfl) ?_) | (refine ARL.light rfl rfl rfl (opLoadOwnI rfl aggA_3 rfl (by assumption) (by first | omega | (simp; omega))) (by intro b_ hb_; rw [List.mem_singleton.mp hb_]; exact Own.alive (by assumption) (by first | omega | (simp; omega))) ?_))
  all_goals (refine ARL.callD rfl rfl rfl rfl call_63 (spec_l1In _ _ _) rfl ?_ ?_ <;> intro h7)
  all_goals (refine ARL.light0 rfl rfl rfl (opNot rfl rfl) ?_)
  all_goals (refine ARL.light0 rfl rfl rfl (opMove (v := .bool _) rfl rfl) ?_)
  all_goals (first | (refine ARL.off rfl rfl ?_) | (refine ARL.light0 rfl rfl rfl (opFieldAddrR rfl fieldA_35_1 rfl rfl) ?_) | (refine ARL.light0 rfl rfl rfl (opFieldAddr rfl fieldA_35_1 rfl rfl) ?_))
  all_goals (first | (refine ARL.off rfl rfl ?_) | (refine ARL.light0 rfl rfl rfl (opLoadR (v := .int _ _) rfl aggA_3 rfl rfl) ?_) | (refine ARL.light rfl rfl rfl (opLoadOwnI rfl aggA_3 rfl (by assumption) (by first | omega | (simp; omega))) (by intro b_ hb_; rw [List.mem_singleton.mp hb_]; exact Own.alive (by assumption) (by first | omega | (simp; omega))) ?_))
  all_goals (first | (refine ARL.off rfl rfl ?_) | (refine ARL.callD rfl rfl rfl rfl call_63 (spec_l1In _ _ _) rfl ?_ ?_ <;> intro h12))
  all_goals (first | (refine ARL.off rfl rfl ?_) | (refine ARL.light0 rfl rfl rfl (opNot rfl rfl) ?_))
  all_goals (refine ARL.light0 rfl rfl rfl (opPick (v := .bool _) rfl rfl rfl) ?_)
  all_goals (refine ARL.light0 rfl rfl rfl (opMove (v := .bool _) rfl rfl) ?_)
  all_goals (first | (refine ARL.off rfl rfl ?_) | (refine ARL.light0 rfl rfl rfl (opFieldAddrR rfl fieldA_35_2 rfl rfl) ?_) | (refine ARL.light0 rfl rfl rfl (opFieldAddr rfl fieldA_35_2 rfl rfl) ?_))
  all_goals (first | (refine ARL.off rfl rfl ?_) | (refine ARL.light0 rfl rfl rfl (opLoadR (v := .int _ _) rfl aggA_3 rfl rfl) ?_) | (refine ARL.light rfl rfl rfl (opLoadOwnI rfl aggA_3 rfl (by assumption) (by first | omega | (simp; omega))) (by intro b_ hb_; rw [List.mem_singleton.mp hb_]; exact Own.alive (by assumption) (by first | omega | (simp; omega))) ?_))
  all_goals (first | (refine ARL.off rfl rfl ?_) | (refine ARL.light0 rfl rfl rfl (opFieldAddrR rfl fieldA_35_1 rfl rfl) ?_) | (refine ARL.light0 rfl rfl rfl (opFieldAddr rfl fieldA_35_1 rfl rfl) ?_))
  all_goals (first | (refine ARL.off rfl rfl ?_) | (refine ARL.light0 rfl rfl rfl (opLoadR (v := .int _ _) rfl aggA_3 rfl rfl) ?_) | (refine ARL.light rfl rfl rfl (opLoadOwnI rfl aggA_3 rfl (by assumption) (by first | omega | (simp; omega))) (by intro b_ hb_; rw [List.mem_singleton.mp hb_]; exact Own.alive (by assumption) (by first | omega | (simp; omega))) ?_))
  all_goals (first | (refine ARL.off rfl rfl ?_) | (refine ARL.light0 rfl rfl rfl (opShl1 rfl rfl rfl (by omega)) ?_))
  all_goals (first | (refine ARL.off rfl rfl ?_) | (have hp := pow31 (n := a.n) (by omega); refine ARL.light0 rfl rfl rfl (opSub rfl rfl rfl (by omega)) ?_))
  all_goals (first | (refine ARL.off rfl rfl ?_) | (refine ARL.callD rfl rfl rfl rfl call_71 (spec_SetIn _ _) rfl ?_ ?_ <;> intro h22))
  all_goals (first | (refine ARL.off rfl rfl ?_) | (refine ARL.light0 rfl rfl rfl (opNot rfl rfl) ?_))
  all_goals (refine ARL.light0 rfl rfl rfl (opPick (v := .bool _) rfl rfl rfl) ?_)
  all_goals (refine ARL.light0 rfl rfl rfl (opMove (v := .bool _) rfl rfl) ?_)
  all_goals (first | (refine ARL.off rfl rfl ?_) | (refine ARL.light0 rfl rfl rfl (opFieldAddrR rfl fieldA_35_3 rfl rfl) ?_) | (refine ARL.light0 rfl rfl rfl (opFieldAddr rfl fieldA_35_3 rfl rfl) ?_))
  all_goals (first | (refine ARL.off rfl rfl ?_) | (refine ARL.light0 rfl rfl rfl (opLoadR (v := .list _ _) rfl aggA_33 rfl rfl) ?_) | (refine ARL.light0 rfl rfl rfl (opLoadR (v := .slc _ _ _ _) rfl aggA_33 rfl rfl) ?_) | (refine ARL.light0 rfl rfl rfl (opLoadR (v := .nil) rfl aggA_33 rfl rfl) ?_) | (refine ARL.light rfl rfl rfl (opLoadOwnM rfl aggA_33 rfl (by assumption) (by first | omega | (simp; omega)) (fun _ => rfl)) (by intro b_ hb_; rw [List.mem_singleton.mp hb_]; exact Own.alive (by assumption) (by first | omega | (simp; omega))) ?_))
  all_goals (first | (refine ARL.off rfl rfl ?_) | (refine ARL.light0 rfl rfl rfl (opLenMap rfl rfl rfl lenT_33 rfl) ?_) | (refine ARL.light0 rfl rfl rfl (opLenOf rfl rfl rfl lenT_33 rfl rfl) ?_))
  all_goals (first | (refine ARL.off rfl rfl ?_) | (refine ARL.dec rfl rfl rfl (opInt rfl rfl rfl rfl) ?_ ?_ <;> intro h29))
  all_goals (refine ARL.light0 rfl rfl rfl (opPick (v := .bool _) rfl rfl rfl) ?_)
  all_goals (refine ARL.done ?_)
  all_goals (first
    | (
      refine AWP.condT rfl ?_
      all_goals (refine AWP.seqR rfl ?_)
      all_goals (refine ASL.light rfl rfl (opAssign (v := .bool _) rfl rfl) ?_)
      all_goals (refine ASL.done ?_)
      all_goals (refine AWP.ret ?_)
      all_goals (repeat with_reducible refine QThen.ret1 ?_)
      all_goals (exact QRet.bool rfl rfl rfl (by first | exact autoOk_head (headNo (by assumption)) | exact autoOk_head (fun hh => by obtain ⟨g1, g2, g3, g4⟩ := hh; first | contradiction | omega | exact absurd ((setIn_pow g2).mpr g3) (by assumption)) | exact autoOk_edge (j := i) (by omega) (fun hh => by obtain ⟨g1, g2, g3, g4⟩ := hh; first | contradiction | (rw [show ((i : Int) - 1).toNat = i - 1 by omega] at *; first | exact absurd (g4 (by omega)) (by assumption) | (have := (cmpE_lt _ _).mpr (g4 (by omega)); omega))) | exact autoOk_all ⟨by assumption, by assumption, (setIn_pow (by assumption)).mp (by assumption), by omega⟩ (fun j hj => hI0.2 j (by omega)) | (obtain ⟨q1, q2, q3⟩ := (by assumption : (1 ≤ a.l ∧ a.l ≤ 8) ∧ (0 ≤ a.n ∧ a.n ≤ 31) ∧ (0 ≤ a.s ∧ a.s < ((2 ^ a.n.toNat : Nat) : Int))); exact autoOk_all ⟨q1, q2, q3, by omega⟩ (fun j hj => hI0.2 j (by omega))))))
    | (
      refine AWP.condF rfl ?_
      all_goals (refine AWP.skip ?_)
      all_goals (refine AWP.seq ?_)
      all_goals (refine AWP.seqR rfl ?_)
      all_goals (refine ASL.light rfl rfl (opAssign (v := .int _ _) rfl rfl) ?_)
      all_goals (refine ASL.done ?_)
      all_goals (refine AWP.block ?_)
      all_goals (refine AWP.loopL (α := Nat) (fun i => [(1, .rptr [.int .i64 a.l, .int .i64 a.n, .int .i64 a.s, .list 4 (a.es.map edgeA)]), (3, .int .i64 i)]) (fun i G => G = fun _ => none) (fun i => a.es.length - i) (fun i => i ≤ a.es.length ∧ ∀ j, j < i → edgeP a j) 0 ⟨by omega, fun j hj => by omega⟩ ⟨rfl, rfl, trivial⟩ rfl ?_)
      rintro i G0 hI0 rfl
      all_goals (refine AWP.seq ?_)
      all_goals (refine AWP.seqR rfl ?_)
      all_goals (refine ASL.light rfl rfl (opMove (v := .int _ _) rfl rfl) ?_)
      all_goals (first | (refine ASL.light rfl rfl (opFieldAddrR rfl fieldA_35_3 rfl rfl) ?_) | (refine ASL.light rfl rfl (opFieldAddr rfl fieldA_35_3 rfl rfl) ?_))
      all_goals (first | (refine ASL.light rfl rfl (opLoadR (v := .list _ _) rfl aggA_33 rfl rfl) ?_) | (refine ASL.light rfl rfl (opLoadR (v := .slc _ _ _ _) rfl aggA_33 rfl rfl) ?_) | (refine ASL.light rfl rfl (opLoadR (v := .nil) rfl aggA_33 rfl rfl) ?_) | (refine ASL.light rfl rfl (opLoadOwnM rfl aggA_33 rfl (by assumption) (by first | omega | (simp; omega)) (fun _ => rfl)) ?_))
      all_goals (first | (refine ASL.light rfl rfl (opLenMap rfl rfl rfl lenT_33 rfl) ?_) | (refine ASL.light rfl rfl (opLenOf rfl rfl rfl lenT_33 rfl rfl) ?_))
      all_goals (refine ASL.dec rfl rfl (opInt rfl rfl rfl rfl) ?_ ?_ <;> intro h35)
      all_goals (refine ASL.done ?_)
      all_goals (first
        | (
          refine AWP.condF rfl ?_
          all_goals (refine AWP.exit ?_))
        | (
          refine AWP.condT rfl ?_
          all_goals (refine AWP.skip ?_)
          all_goals (refine AWP.seq ?_)
          all_goals (refine AWP.block ?_)
          all_goals (refine AWP.seqR rfl ?_)
          all_goals (first | (refine ASL.light rfl rfl (opFieldAddrR rfl fieldA_35_3 rfl rfl) ?_) | (refine ASL.light rfl rfl (opFieldAddr rfl fieldA_35_3 rfl rfl) ?_))
          all_goals (first | (refine ASL.light rfl rfl (opLoadR (v := .list _ _) rfl aggA_33 rfl rfl) ?_) | (refine ASL.light rfl rfl (opLoadR (v := .slc _ _ _ _) rfl aggA_33 rfl rfl) ?_) | (refine ASL.light rfl rfl (opLoadR (v := .nil) rfl aggA_33 rfl rfl) ?_) | (refine ASL.light rfl rfl (opLoadOwnM rfl aggA_33 rfl (by assumption) (by first | omega | (simp; omega)) (fun _ => rfl)) ?_))
          all_goals (refine ASL.light rfl rfl (opMove (v := .int _ _) rfl rfl) ?_)
          all_goals (first | (refine ASL.light rfl rfl (opIndexN rfl rfl rfl elemA_33 sizeA_96 (by omega) rfl) ?_) | (refine ASL.light rfl rfl (opIndexMap rfl rfl rfl elemA_33 sizeA_96 (by omega) (by omega) rfl) ?_) | (refine ASL.light rfl rfl (opIndexAddrN rfl rfl rfl elemA_33 sizeA_96 (by omega)) ?_) | (refine ASL.light rfl rfl (opIndexAddr rfl rfl rfl elemA_33 sizeA_96 (by omega) (by omega) rfl) ?_))
          all_goals (refine ASL.light rfl rfl (opLoadRA rfl aggA_96 sizeA_96 rfl (by first | exact Nat.le_of_ble_eq_true rfl | (simp; done)) rfl) ?_)
          all_goals (refine ASL.heavy1 rfl rfl (opAlloc rfl zeroA_96 ?_); intro b4 hb4)
          all_goals (refine ASL.store rfl rfl (opStoreNew rfl sizeA_96 rfl rfl (Heap.set_same _ _ _) rfl rfl rfl rfl ?_))
          all_goals (refine ASL.done ?_)
          all_goals ((refine AWP.settle 4 rfl (Heap.set_same _ _ _) hb4 (fun c x hc hne => by rw [Heap.set_ne _ _ hne, Heap.set_ne _ _ hne]; exact hc) ?_))
          all_goals (refine AWP.seqD [(0, false), (1, false), (2, false), (3, false), (4, false), (5, false), (6, false), (7, false), (8, false), (9, false), (10, false), (11, false), (12, false), (13, false), (14, false), (15, false), (16, false), (17, false), (18, false), (19, false), (20, false), (21, false), (22, false), (23, false), (24, false), (25, false), (26, false), (27, false), (28, false), (29, false), (30, false), (31, false), (32, false), (33, false), (34, false), (35, false), (36, false), (37, false)] mixed (by kernel_rfl) rfl ?_)
          all_goals (first | (refine ARL.light0 rfl rfl rfl (opFieldAddrR rfl fieldA_96_0 rfl rfl) ?_) | (refine ARL.light0 rfl rfl rfl (opFieldAddr rfl fieldA_96_0 rfl rfl) ?_))
          all_goals (first | (refine ARL.light0 rfl rfl rfl (opLoadR (v := .int _ _) rfl aggA_3 rfl rfl) ?_) | (refine ARL.light rfl rfl rfl (opLoadOwnI rfl aggA_3 rfl (by assumption) (by first | omega | (simp; omega))) (by intro b_ hb_; rw [List.mem_singleton.mp hb_]; exact Own.alive (by assumption) (by first | omega | (simp; omega))) ?_))
          all_goals (first | (refine ARL.light0 rfl rfl rfl (opFieldAddrR rfl fieldA_35_1 rfl rfl) ?_) | (refine ARL.light0 rfl rfl rfl (opFieldAddr rfl fieldA_35_1 rfl rfl) ?_))
          all_goals (first | (refine ARL.light0 rfl rfl rfl (opLoadR (v := .int _ _) rfl aggA_3 rfl rfl) ?_) | (refine ARL.light rfl rfl rfl (opLoadOwnI rfl aggA_3 rfl (by assumption) (by first | omega | (simp; omega))) (by intro b_ hb_; rw [List.mem_singleton.mp hb_]; exact Own.alive (by assumption) (by first | omega | (simp; omega))) ?_))
          all_goals (refine ARL.callD rfl rfl rfl rfl call_72 (spec_l4State _ _ (by omega)) rfl ?_ ?_ <;> intro h47)
          all_goals (refine ARL.light0 rfl rfl rfl (opNot rfl rfl) ?_)
          all_goals (refine ARL.light0 rfl rfl rfl (opMove (v := .bool _) rfl rfl) ?_)
          all_goals (first | (refine ARL.off rfl rfl ?_) | (refine ARL.light0 rfl rfl rfl (opFieldAddrR rfl fieldA_96_2 rfl rfl) ?_) | (refine ARL.light0 rfl rfl rfl (opFieldAddr rfl fieldA_96_2 rfl rfl) ?_))
          all_goals (first | (refine ARL.off rfl rfl ?_) | (refine ARL.light0 rfl rfl rfl (opLoadR (v := .int _ _) rfl aggA_3 rfl rfl) ?_) | (refine ARL.light rfl rfl rfl (opLoadOwnI rfl aggA_3 rfl (by assumption) (by first | omega | (simp; omega))) (by intro b_ hb_; rw [List.mem_singleton.mp hb_]; exact Own.alive (by assumption) (by first | omega | (simp; omega))) ?_))
          all_goals (first | (refine ARL.off rfl rfl ?_) | (refine ARL.light0 rfl rfl rfl (opFieldAddrR rfl fieldA_35_1 rfl rfl) ?_) | (refine ARL.light0 rfl rfl rfl (opFieldAddr rfl fieldA_35_1 rfl rfl) ?_))
          all_goals (first | (refine ARL.off rfl rfl ?_) | (refine ARL.light0 rfl rfl rfl (opLoadR (v := .int _ _) rfl aggA_3 rfl rfl) ?_) | (refine ARL.light rfl rfl rfl (opLoadOwnI rfl aggA_3 rfl (by assumption) (by first | omega | (simp; omega))) (by intro b_ hb_; rw [List.mem_singleton.mp hb_]; exact Own.alive (by assumption) (by first | omega | (simp; omega))) ?_))
          all_goals (first | (refine ARL.off rfl rfl ?_) | (refine ARL.callD rfl rfl rfl rfl call_72 (spec_l4State _ _ (by omega)) rfl ?_ ?_ <;> intro h54))
          all_goals (first | (refine ARL.off rfl rfl ?_) | (refine ARL.light0 rfl rfl rfl (opNot rfl rfl) ?_))
          all_goals (refine ARL.light0 rfl rfl rfl (opPick (v := .bool _) rfl rfl rfl) ?_)
          all_goals (refine ARL.light0 rfl rfl rfl (opMove (v := .bool _) rfl rfl) ?_)
          all_goals (first | (refine ARL.off rfl rfl ?_) | (refine ARL.light0 rfl rfl rfl (opFieldAddrR rfl fieldA_96_1 rfl rfl) ?_) | (refine ARL.light0 rfl rfl rfl (opFieldAddr rfl fieldA_96_1 rfl rfl) ?_))
          all_goals (first | (refine ARL.off rfl rfl ?_) | (refine ARL.light0 rfl rfl rfl (opLoadR (v := .int _ _) rfl aggA_3 rfl rfl) ?_) | (refine ARL.light rfl rfl rfl (opLoadOwnI rfl aggA_3 rfl (by assumption) (by first | omega | (simp; omega))) (by intro b_ hb_; rw [List.mem_singleton.mp hb_]; exact Own.alive (by assumption) (by first | omega | (simp; omega))) ?_))
          all_goals (first | (refine ARL.off rfl rfl ?_) | (refine ARL.light0 rfl rfl rfl (opFieldAddrR rfl fieldA_35_0 rfl rfl) ?_) | (refine ARL.light0 rfl rfl rfl (opFieldAddr rfl fieldA_35_0 rfl rfl) ?_))
          all_goals (first | (refine ARL.off rfl rfl ?_) | (refine ARL.light0 rfl rfl rfl (opLoadR (v := .int _ _) rfl aggA_3 rfl rfl) ?_) | (refine ARL.light rfl rfl rfl (opLoadOwnI rfl aggA_3 rfl (by assumption) (by first | omega | (simp; omega))) (by intro b_ hb_; rw [List.mem_singleton.mp hb_]; exact Own.alive (by assumption) (by first | omega | (simp; omega))) ?_))
          all_goals (first | (refine ARL.off rfl rfl ?_) | (refine ARL.light0 rfl rfl rfl (opSub rfl rfl rfl (by omega)) ?_) | (refine ARL.light0 rfl rfl rfl (opInt rfl rfl rfl rfl) ?_))
          all_goals (first | (refine ARL.off rfl rfl ?_) | (refine ARL.callD rfl rfl rfl rfl call_63 (spec_l1In _ _ _) rfl ?_ ?_ <;> intro h63))
          all_goals (first | (refine ARL.off rfl rfl ?_) | (refine ARL.light0 rfl rfl rfl (opNot rfl rfl) ?_))
          all_goals (refine ARL.light0 rfl rfl rfl (opPick (v := .bool _) rfl rfl rfl) ?_)
          all_goals (refine ARL.light0 rfl rfl rfl (opMove (v := .bool _) rfl rfl) ?_)
          all_goals (first | (refine ARL.off rfl rfl ?_) | (refine ARL.light0 rfl rfl rfl (opMove (v := .int _ _) rfl rfl) ?_))
          all_goals (first | (refine ARL.off rfl rfl ?_) | (refine ARL.dec rfl rfl rfl (opInt rfl rfl rfl rfl) ?_ ?_ <;> intro h68))
          all_goals (first | (refine ARL.off rfl rfl ?_) | (refine ARL.light0 rfl rfl rfl (opMove (v := .bool _) rfl rfl) ?_))
          all_goals (first | (refine ARL.off rfl rfl ?_) | (refine ARL.light0 rfl rfl rfl (opFieldAddrR rfl fieldA_35_3 rfl rfl) ?_) | (refine ARL.light0 rfl rfl rfl (opFieldAddr rfl fieldA_35_3 rfl rfl) ?_))
          all_goals (first | (refine ARL.off rfl rfl ?_) | (refine ARL.light0 rfl rfl rfl (opLoadR (v := .list _ _) rfl aggA_33 rfl rfl) ?_) | (refine ARL.light0 rfl rfl rfl (opLoadR (v := .slc _ _ _ _) rfl aggA_33 rfl rfl) ?_) | (refine ARL.light0 rfl rfl rfl (opLoadR (v := .nil) rfl aggA_33 rfl rfl) ?_) | (refine ARL.light rfl rfl rfl (opLoadOwnM rfl aggA_33 rfl (by assumption) (by first | omega | (simp; omega)) (fun _ => rfl)) (by intro b_ hb_; rw [List.mem_singleton.mp hb_]; exact Own.alive (by assumption) (by first | omega | (simp; omega))) ?_))
          all_goals (first | (refine ARL.off rfl rfl ?_) | (refine ARL.light0 rfl rfl rfl (opMove (v := .int _ _) rfl rfl) ?_))
          all_goals (first | (refine ARL.off rfl rfl ?_) | (refine ARL.light0 rfl rfl rfl (opSub rfl rfl rfl (by omega)) ?_) | (refine ARL.light0 rfl rfl rfl (opInt rfl rfl rfl rfl) ?_))
          all_goals (first | (refine ARL.off rfl rfl ?_) | (refine ARL.light0 rfl rfl rfl (opIndexN rfl rfl rfl elemA_33 sizeA_96 (by omega) rfl) ?_) | (refine ARL.light0 rfl rfl rfl (opIndexMap rfl rfl rfl elemA_33 sizeA_96 (by omega) (by omega) rfl) ?_) | (refine ARL.light0 rfl rfl rfl (opIndexAddrN rfl rfl rfl elemA_33 sizeA_96 (by omega)) ?_) | (refine ARL.light0 rfl rfl rfl (opIndexAddr rfl rfl rfl elemA_33 sizeA_96 (by omega) (by omega) rfl) ?_))
          all_goals (first | (refine ARL.off rfl rfl ?_) | (refine ARL.light0 rfl rfl rfl (opLoadRA rfl aggA_96 sizeA_96 rfl (by first | exact Nat.le_of_ble_eq_true rfl | (simp; done)) rfl) ?_))
          all_goals (first | (refine ARL.off rfl rfl ?_) | (refine ARL.light0 rfl rfl rfl (opLoadRA rfl aggA_96 sizeA_96 rfl (by first | exact Nat.le_of_ble_eq_true rfl | (simp; done)) rfl) ?_))
          all_goals (first | (refine ARL.off rfl rfl ?_) | (refine ARL.callD rfl rfl rfl rfl call_73 (spec_l4Less _ _) rfl ?_ ?_ <;> intro h77))
          all_goals (first | (refine ARL.off rfl rfl ?_) | (refine ARL.light0 rfl rfl rfl (opNot rfl rfl) ?_))
          all_goals (first | (refine ARL.off rfl rfl ?_) | (refine ARL.light0 rfl rfl rfl (opPick (v := .bool _) rfl rfl rfl) ?_))
          all_goals (refine ARL.light0 rfl rfl rfl (opPick (v := .bool _) rfl rfl rfl) ?_)
          all_goals (refine ARL.done ?_)
          all_goals (first
            | (
              refine AWP.condT rfl ?_
              all_goals (refine AWP.seqR rfl ?_)
              all_goals (refine ASL.light rfl rfl (opAssign (v := .bool _) rfl rfl) ?_)
              all_goals (refine ASL.done ?_)
              all_goals (refine AWP.ret ?_)
              all_goals (repeat with_reducible refine QThen.ret1 ?_)
              all_goals (exact QRet.bool rfl rfl rfl (by first | exact autoOk_head (headNo (by assumption)) | exact autoOk_head (fun hh => by obtain ⟨g1, g2, g3, g4⟩ := hh; first | contradiction | omega | exact absurd ((setIn_pow g2).mpr g3) (by assumption)) | exact autoOk_edge (j := i) (by omega) (fun hh => by obtain ⟨g1, g2, g3, g4⟩ := hh; first | contradiction | (rw [show ((i : Int) - 1).toNat = i - 1 by omega] at *; first | exact absurd (g4 (by omega)) (by assumption) | (have := (cmpE_lt _ _).mpr (g4 (by omega)); omega))) | exact autoOk_all ⟨by assumption, by assumption, (setIn_pow (by assumption)).mp (by assumption), by omega⟩ (fun j hj => hI0.2 j (by omega)) | (obtain ⟨q1, q2, q3⟩ := (by assumption : (1 ≤ a.l ∧ a.l ≤ 8) ∧ (0 ≤ a.n ∧ a.n ≤ 31) ∧ (0 ≤ a.s ∧ a.s < ((2 ^ a.n.toNat : Nat) : Int))); exact autoOk_all ⟨q1, q2, q3, by omega⟩ (fun j hj => hI0.2 j (by omega))))))
            | (
              refine AWP.condF rfl ?_
              all_goals (refine AWP.skip ?_)))
          all_goals (refine AWP.lastR rfl ?_)
          all_goals (refine ASL.light rfl rfl (opMove (v := .int _ _) rfl rfl) ?_)
          all_goals (first | (refine ASL.light rfl rfl (opAdd rfl rfl rfl (by omega)) ?_) | (refine ASL.light rfl rfl (opInt rfl rfl rfl rfl) ?_))
          all_goals (refine ASL.light rfl rfl (opAssign (v := .int _ _) rfl rfl) ?_)
          all_goals (refine ASL.done ?_)
          all_goals (exact ⟨i + 1, ⟨by omega, edgeP_next hI0.2 ⟨by assumption, by assumption, by assumption, fun hi => by first | omega | (rw [show ((i : Int) - 1).toNat = i - 1 by omega] at *; assumption)⟩⟩, by omega, ⟨rfl, rfl, trivial⟩, rfl⟩)))
      all_goals (refine AWP.seqR rfl ?_)
      all_goals (refine ASL.light rfl rfl (opAssign (v := .bool _) rfl rfl) ?_)
      all_goals (refine ASL.done ?_)
      all_goals (refine AWP.ret ?_)
      all_goals (repeat with_reducible refine QThen.ret1 ?_)
      all_goals (exact QRet.bool rfl rfl rfl (by first | exact autoOk_head (headNo (by assumption)) | exact autoOk_head (fun hh => by obtain ⟨g1, g2, g3, g4⟩ := hh; first | contradiction | omega | exact absurd ((setIn_pow g2).mpr g3) (by assumption)) | exact autoOk_edge (j := i) (by omega) (fun hh => by obtain ⟨g1, g2, g3, g4⟩ := hh; first | contradiction | (rw [show ((i : Int) - 1).toNat = i - 1 by omega] at *; first | exact absurd (g4 (by omega)) (by assumption) | (have := (cmpE_lt _ _).mpr (g4 (by omega)); omega))) | exact autoOk_all ⟨by assumption, by assumption, (setIn_pow (by assumption)).mp (by assumption), by omega⟩ (fun j hj => hI0.2 j (by omega)) | (obtain ⟨q1, q2, q3⟩ := (by assumption : (1 ≤ a.l ∧ a.l ≤ 8) ∧ (0 ≤ a.n ∧ a.n ≤ 31) ∧ (0 ≤ a.s ∧ a.s < ((2 ^ a.n.toNat : Nat) : Int))); exact autoOk_all ⟨q1, q2, q3, by omega⟩ (fun j hj => hI0.2 j (by omega)))))))

set_option maxRecDepth 10000 in
theorem impl_isLetters (x : Int) : PC Try.prog 133 [.int .i64 x] (fun v => v = .bool (decide (1 ≤ x ∧ x ≤ 8))) := by
  refine PC.enter Try.func133 rfl Try.ntmps133 (by simp) ?_
  all_goals (refine AWP.seqR rfl ?_)
  all_goals (refine ASL.light rfl rfl (opAssign (v := .bool _) rfl rfl) ?_)
  all_goals (refine ASL.done ?_)
  all_goals (refine AWP.seqR rfl ?_)
  all_goals (refine ASL.light rfl rfl (opMove (v := .int _ _) rfl rfl) ?_)
  all_goals (refine ASL.callD rfl rfl rfl rfl call_65 (impl_inRange _ _ _) rfl ?_ ?_ <;> intro h4)
  all_goals (refine ASL.light rfl rfl (opAssign (v := .bool _) rfl rfl) ?_)
  all_goals (refine ASL.done ?_)
  all_goals (refine AWP.ret ?_)
  all_goals (repeat with_reducible refine QThen.ret1 ?_)
  all_goals (exact QRet.bool rfl rfl rfl (by (first | rfl | (rw [decide_eq_decide]; omega) | (exact (decide_eq_true (by omega)).symm) | (exact (decide_eq_false (by omega)).symm))))

set_option maxRecDepth 10000 in
theorem impl_only (i : Int) (hi : 0 ≤ i ∧ i ≤ 62) : PC Try.prog 82 [.int .i64 i] (fun v => v = .int .i64 ((2 ^ i.toNat : Nat) : Int)) := by
  refine PC.enter Try.func82 rfl Try.ntmps82 (by simp) ?_
  all_goals (refine AWP.seqR rfl ?_)
  all_goals (refine ASL.light rfl rfl (opAssign (v := .int _ _) rfl rfl) ?_)
  all_goals (refine ASL.done ?_)
  all_goals (refine AWP.seqR rfl ?_)
  all_goals (refine ASL.light rfl rfl (opMove (v := .int _ _) rfl rfl) ?_)
  all_goals (refine ASL.light rfl rfl (opConv (v := .int .u64 i) rfl rfl und_3 und_138 (by rw [show IntKind.u64.wrap i = i from by simp [IntKind.wrap, IntKind.bits]; omega])) ?_)
  all_goals (refine ASL.light rfl rfl (opShl1 rfl rfl rfl (by omega)) ?_)
  all_goals (refine ASL.light rfl rfl (opAssign (v := .int _ _) rfl rfl) ?_)
  all_goals (refine ASL.done ?_)
  all_goals (refine AWP.ret ?_)
  all_goals (repeat with_reducible refine QThen.ret1 ?_)
  all_goals (exact QRet.int rfl rfl rfl rfl)

set_option maxRecDepth 10000 in
theorem impl_headOk (l n s : Int) : PC Try.prog 111 [.int .i64 l, .int .i64 n, .int .i64 s] (fun v => v = .bool (decide ((1 ≤ l ∧ l ≤ 8) ∧ (0 ≤ n ∧ n ≤ 31) ∧ (0 ≤ s ∧ s < ((2 ^ n.toNat : Nat) : Int))))) := by
  refine PC.enter Try.func111 rfl Try.ntmps111 (by simp) ?_
  all_goals (refine AWP.seqR rfl ?_)
  all_goals (refine ASL.light rfl rfl (opAssign (v := .bool _) rfl rfl) ?_)
  all_goals (refine ASL.done ?_)
  all_goals (refine AWP.seqR rfl ?_)
  all_goals (refine ASL.light rfl rfl (opMove (v := .int _ _) rfl rfl) ?_)
  all_goals (refine ASL.callD rfl rfl rfl rfl call_133 (impl_isLetters _) rfl ?_ ?_ <;> intro h8)
  all_goals (refine ASL.light rfl rfl (opMove (v := .bool _) rfl rfl) ?_)
  all_goals (first | (refine ASL.off rfl rfl ?_) | (refine ASL.light rfl rfl (opMove (v := .int _ _) rfl rfl) ?_))
  all_goals (first | (refine ASL.off rfl rfl ?_) | (refine ASL.callD rfl rfl rfl rfl call_65 (impl_inRange _ _ _) rfl ?_ ?_ <;> intro h11))
  all_goals (refine ASL.light rfl rfl (opPick (v := .bool _) rfl rfl rfl) ?_)
  all_goals (refine ASL.light rfl rfl (opMove (v := .bool _) rfl rfl) ?_)
  all_goals (first | (refine ASL.off rfl rfl ?_) | (refine ASL.light rfl rfl (opMove (v := .int _ _) rfl rfl) ?_))
  all_goals (first | (refine ASL.off rfl rfl ?_) | (refine ASL.callD rfl rfl rfl rfl call_81 (impl_SetOk _) rfl ?_ ?_ <;> intro h15))
  all_goals (refine ASL.light rfl rfl (opPick (v := .bool _) rfl rfl rfl) ?_)
  all_goals (refine ASL.light rfl rfl (opMove (v := .bool _) rfl rfl) ?_)
  all_goals (first | (refine ASL.off rfl rfl ?_) | (refine ASL.light rfl rfl (opMove (v := .int _ _) rfl rfl) ?_))
  all_goals (first | (refine ASL.off rfl rfl ?_) | (refine ASL.light rfl rfl (opMove (v := .int _ _) rfl rfl) ?_))
  all_goals (first | (refine ASL.off rfl rfl ?_) | (refine ASL.callP rfl rfl rfl rfl call_82 (impl_only _ (by omega)) rfl ?_; rintro _ rfl))
  all_goals (first | (refine ASL.off rfl rfl ?_) | (refine ASL.light rfl rfl (opInt rfl rfl rfl rfl) ?_))
  all_goals (refine ASL.light rfl rfl (opPick (v := .bool _) rfl rfl rfl) ?_)
  all_goals (refine ASL.light rfl rfl (opAssign (v := .bool _) rfl rfl) ?_)
  all_goals (refine ASL.done ?_)
  all_goals (refine AWP.ret ?_)
  all_goals (repeat with_reducible refine QThen.ret1 ?_)
  all_goals (exact QRet.bool rfl rfl rfl (by symm; first | (rw [decide_eq_decide]; have hp := pow31 (n := n) (by omega); omega) | (apply decide_eq_true; have hp := pow31 (n := n) (by omega); omega) | (apply decide_eq_false; intro k; have hp := pow31 (n := n) k.2.1; omega)))

set_option maxRecDepth 10000 in
theorem cmp_isNaN_int (x : Int) : PC Try.prog 143 [.int .i64 x] (fun v => v = .bool false) := by
  refine PC.enter Try.func143 rfl Try.ntmps143 (by simp) ?_
  all_goals (refine AWP.seqR rfl ?_)
  all_goals (refine ASL.light rfl rfl (opAssign (v := .bool _) rfl rfl) ?_)
  all_goals (refine ASL.done ?_)
  all_goals (refine AWP.seqR rfl ?_)
  all_goals (refine ASL.light rfl rfl (opMove (v := .int _ _) rfl rfl) ?_)
  all_goals (refine ASL.light rfl rfl (opMove (v := .int _ _) rfl rfl) ?_)
  all_goals (refine ASL.light rfl rfl (opInt rfl rfl rfl rfl) ?_)
  all_goals (refine ASL.light rfl rfl (opAssign (v := .bool _) rfl rfl) ?_)
  all_goals (refine ASL.done ?_)
  all_goals (refine AWP.ret ?_)
  all_goals (repeat with_reducible refine QThen.ret1 ?_)
  all_goals (exact QRet.bool rfl rfl rfl (by exact decide_eq_false (fun k => k rfl)))

set_option maxRecDepth 10000 in
theorem cmp_Compare_int (a b : Int) : PC Try.prog 135 [.int .i64 a, .int .i64 b] (fun v => v = .int .i64 (cmpI a b)) := by
  refine PC.enter Try.func135 rfl Try.ntmps135 (by simp) ?_
  all_goals (refine AWP.seqR rfl ?_)
  all_goals (refine ASL.light rfl rfl (opAssign (v := .int _ _) rfl rfl) ?_)
  all_goals (refine ASL.done ?_)
  all_goals (refine AWP.seqR rfl ?_)
  all_goals (refine ASL.light rfl rfl (opMove (v := .int _ _) rfl rfl) ?_)
  all_goals (refine ASL.callP rfl rfl rfl rfl call_143 (cmp_isNaN_int _) rfl ?_; rintro _ rfl)
  all_goals (refine ASL.light rfl rfl (opAssign (v := .bool _) rfl rfl) ?_)
  all_goals (refine ASL.done ?_)
  all_goals (refine AWP.seqR rfl ?_)
  all_goals (refine ASL.light rfl rfl (opMove (v := .int _ _) rfl rfl) ?_)
  all_goals (refine ASL.callP rfl rfl rfl rfl call_143 (cmp_isNaN_int _) rfl ?_; rintro _ rfl)
  all_goals (refine ASL.light rfl rfl (opAssign (v := .bool _) rfl rfl) ?_)
  all_goals (refine ASL.done ?_)
  all_goals (refine AWP.seq ?_)
  all_goals (refine AWP.seqR rfl ?_)
  all_goals (refine ASL.light rfl rfl (opMove (v := .bool false) rfl rfl) ?_)
  all_goals (refine ASL.done ?_)
  all_goals (first
    | (
      refine AWP.condT rfl ?_
      all_goals (refine AWP.seq ?_)
      all_goals (refine AWP.seqR rfl ?_)
      all_goals (refine ASL.bool rfl rfl (opMove rfl rfl) ?_ ?_ <;> intro h12)
      all_goals (refine ASL.done ?_)
      all_goals (first
        | (
          refine AWP.condT rfl ?_
          all_goals (refine AWP.seqR rfl ?_)
          all_goals (refine ASL.light rfl rfl (opAssign (v := .int _ _) rfl rfl) ?_)
          all_goals (refine ASL.done ?_)
          all_goals (refine AWP.ret ?_)
          all_goals (repeat with_reducible refine QThen.ret1 ?_)
          all_goals (exact QRet.int rfl rfl rfl (by unfold cmpI; first | (rw [if_pos (by omega)]) | (rw [if_neg (by omega), if_pos (by omega)]) | (rw [if_neg (by omega), if_neg (by omega)]))))
        | (
          refine AWP.condF rfl ?_
          all_goals (refine AWP.skip ?_)
          all_goals (refine AWP.seqR rfl ?_)
          all_goals (refine ASL.light rfl rfl (opAssign (v := .int _ _) rfl rfl) ?_)
          all_goals (refine ASL.done ?_)
          all_goals (refine AWP.ret ?_)
          all_goals (repeat with_reducible refine QThen.ret1 ?_)
          all_goals (exact QRet.int rfl rfl rfl (by unfold cmpI; first | (rw [if_pos (by omega)]) | (rw [if_neg (by omega), if_pos (by omega)]) | (rw [if_neg (by omega), if_neg (by omega)]))))))
    | (
      refine AWP.condF rfl ?_
      all_goals (refine AWP.skip ?_)
      all_goals (refine AWP.seq ?_)
      all_goals (refine AWP.seqR rfl ?_)
      all_goals (refine ASL.light rfl rfl (opMove (v := .bool false) rfl rfl) ?_)
      all_goals (refine ASL.done ?_)
      all_goals (first
        | (
          refine AWP.condT rfl ?_
          all_goals (refine AWP.seqR rfl ?_)
          all_goals (refine ASL.light rfl rfl (opAssign (v := .int _ _) rfl rfl) ?_)
          all_goals (refine ASL.done ?_)
          all_goals (refine AWP.ret ?_)
          all_goals (repeat with_reducible refine QThen.ret1 ?_)
          all_goals (exact QRet.int rfl rfl rfl (by unfold cmpI; first | (rw [if_pos (by omega)]) | (rw [if_neg (by omega), if_pos (by omega)]) | (rw [if_neg (by omega), if_neg (by omega)]))))
        | (
          refine AWP.condF rfl ?_
          all_goals (refine AWP.skip ?_)
          all_goals (refine AWP.seq ?_)
          all_goals (refine AWP.seqR rfl ?_)
          all_goals (refine ASL.light rfl rfl (opMove (v := .int _ _) rfl rfl) ?_)
          all_goals (refine ASL.light rfl rfl (opMove (v := .int _ _) rfl rfl) ?_)
          all_goals (refine ASL.dec rfl rfl (opInt rfl rfl rfl rfl) ?_ ?_ <;> intro h16)
          all_goals (refine ASL.done ?_)
          all_goals (first
            | (
              refine AWP.condT rfl ?_
              all_goals (refine AWP.seqR rfl ?_)
              all_goals (refine ASL.light rfl rfl (opAssign (v := .int _ _) rfl rfl) ?_)
              all_goals (refine ASL.done ?_)
              all_goals (refine AWP.ret ?_)
              all_goals (repeat with_reducible refine QThen.ret1 ?_)
              all_goals (exact QRet.int rfl rfl rfl (by unfold cmpI; first | (rw [if_pos (by omega)]) | (rw [if_neg (by omega), if_pos (by omega)]) | (rw [if_neg (by omega), if_neg (by omega)]))))
            | (
              refine AWP.condF rfl ?_
              all_goals (refine AWP.skip ?_)
              all_goals (refine AWP.seq ?_)
              all_goals (refine AWP.seqR rfl ?_)
              all_goals (refine ASL.light rfl rfl (opMove (v := .int _ _) rfl rfl) ?_)
              all_goals (refine ASL.light rfl rfl (opMove (v := .int _ _) rfl rfl) ?_)
              all_goals (refine ASL.dec rfl rfl (opInt rfl rfl rfl rfl) ?_ ?_ <;> intro h19)
              all_goals (refine ASL.done ?_)
              all_goals (first
                | (
                  refine AWP.condT rfl ?_
                  all_goals (refine AWP.seqR rfl ?_)
                  all_goals (refine ASL.light rfl rfl (opAssign (v := .int _ _) rfl rfl) ?_)
                  all_goals (refine ASL.done ?_)
                  all_goals (refine AWP.ret ?_)
                  all_goals (repeat with_reducible refine QThen.ret1 ?_)
                  all_goals (exact QRet.int rfl rfl rfl (by unfold cmpI; first | (rw [if_pos (by omega)]) | (rw [if_neg (by omega), if_pos (by omega)]) | (rw [if_neg (by omega), if_neg (by omega)]))))
                | (
                  refine AWP.condF rfl ?_
                  all_goals (refine AWP.skip ?_)
                  all_goals (refine AWP.seqR rfl ?_)
                  all_goals (refine ASL.light rfl rfl (opAssign (v := .int _ _) rfl rfl) ?_)
                  all_goals (refine ASL.done ?_)
                  all_goals (refine AWP.ret ?_)
                  all_goals (repeat with_reducible refine QThen.ret1 ?_)
                  all_goals (exact QRet.int rfl rfl rfl (by unfold cmpI; first | (rw [if_pos (by omega)]) | (rw [if_neg (by omega), if_pos (by omega)]) | (rw [if_neg (by omega), if_neg (by omega)])))))))))))

set_option maxRecDepth 10000 in
theorem cmp_Or_int (xs : List Int) (hl : xs.length ≤ 1048576) : PC Try.prog 134 [ints xs] (fun v => v = .int .i64 (orI xs)) := by
  refine PC.enter Try.func134 rfl Try.ntmps134 (by simp) ?_
  all_goals (refine AWP.seqR rfl ?_)
  all_goals (refine ASL.light rfl rfl (opAssign (v := .int _ _) rfl rfl) ?_)
  all_goals (refine ASL.done ?_)
  all_goals (refine AWP.seqR rfl ?_)
  all_goals (refine ASL.light rfl rfl (opAssign (v := .int _ _) rfl rfl) ?_)
  all_goals (refine ASL.done ?_)
  all_goals (refine AWP.seq ?_)
  all_goals (refine AWP.seqR rfl ?_)
  all_goals (first | (refine ASL.light rfl rfl (opMove (v := .list _ _) rfl rfl) ?_) | (refine ASL.light rfl rfl (opMove (v := .slc _ _ _ _) rfl rfl) ?_) | (refine ASL.light rfl rfl (opMove (v := .nil) rfl rfl) ?_))
  all_goals (first | (refine ASL.light rfl rfl (opLenMap rfl rfl rfl lenT_22 rfl) ?_) | (refine ASL.light rfl rfl (opLenOf rfl rfl rfl lenT_22 rfl rfl) ?_))
  all_goals (refine ASL.light rfl rfl (opMove (v := .int _ _) rfl rfl) ?_)
  all_goals (refine ASL.done ?_)
  all_goals (refine AWP.block ?_)
  all_goals (refine AWP.loopL (α := Nat) (fun i => [(3, .int .i64 0), (6, ints xs), (7, .int .i64 xs.length), (8, .int .i64 i)]) (fun i G => G = fun _ => none) (fun i => xs.length - i) (fun i => i ≤ xs.length ∧ orI xs = orI (xs.drop i)) 0 ⟨by omega, rfl⟩ ⟨rfl, rfl, rfl, rfl, trivial⟩ rfl ?_)
  rintro i G0 hI0 rfl
  all_goals (refine AWP.seqR rfl ?_)
  all_goals (refine ASL.dec rfl rfl (opInt rfl rfl rfl rfl) ?_ ?_ <;> intro h9)
  all_goals (refine ASL.done ?_)
  all_goals (refine AWP.seq ?_)
  all_goals (first
    | (
      refine AWP.condF rfl ?_
      all_goals (refine AWP.exit ?_))
    | (
      refine AWP.condT rfl ?_
      all_goals (refine AWP.skip ?_)
      all_goals (refine AWP.seq ?_)
      all_goals (refine AWP.block ?_)
      all_goals (refine AWP.seqR rfl ?_)
      all_goals (first | (refine ASL.light rfl rfl (opIndexIN rfl rfl rfl elemA_22 sizeA_3 (by omega)) ?_) | (refine ASL.light rfl rfl (opIndexI rfl rfl rfl elemA_22 sizeA_3 (by omega) (by omega)) ?_) | (refine ASL.light rfl rfl (opIndexN rfl rfl rfl elemA_22 sizeA_3 (by omega) rfl) ?_) | (refine ASL.light rfl rfl (opIndexMap rfl rfl rfl elemA_22 sizeA_3 (by omega) (by omega) rfl) ?_) | (refine ASL.light rfl rfl (opIndexAddrN rfl rfl rfl elemA_22 sizeA_3 (by omega)) ?_) | (refine ASL.light rfl rfl (opIndexAddr rfl rfl rfl elemA_22 sizeA_3 (by omega) (by omega) rfl) ?_))
      all_goals (first | (refine ASL.light rfl rfl (opLoadR (v := .int _ _) rfl aggA_3 rfl rfl) ?_) | (refine ASL.light rfl rfl (opLoadOwnI rfl aggA_3 rfl (by assumption) (by first | omega | (simp; omega))) ?_))
      all_goals (refine ASL.light rfl rfl (opAssign (v := .int _ _) rfl rfl) ?_)
      all_goals (refine ASL.done ?_)
      all_goals (refine AWP.seqR rfl ?_)
      all_goals (refine ASL.light rfl rfl (opMove (v := .int _ _) rfl rfl) ?_)
      all_goals (refine ASL.light rfl rfl (opMove (v := .int _ _) rfl rfl) ?_)
      all_goals (refine ASL.dec rfl rfl (opInt rfl rfl rfl rfl) ?_ ?_ <;> intro h14)
      all_goals (refine ASL.done ?_)
      all_goals (first
        | (
          refine AWP.condT rfl ?_
          all_goals (refine AWP.seqR rfl ?_)
          all_goals (refine ASL.light rfl rfl (opMove (v := .int _ _) rfl rfl) ?_)
          all_goals (refine ASL.light rfl rfl (opAssign (v := .int _ _) rfl rfl) ?_)
          all_goals (refine ASL.done ?_)
          all_goals (refine AWP.ret ?_)
          all_goals (repeat with_reducible refine QThen.ret1 ?_)
          all_goals (exact QRet.int rfl rfl rfl (by first | exact orI_hit (i := i) (by omega) hI0.2 (by assumption) | exact orI_end (i := i) (by omega) hI0.2)))
        | (
          refine AWP.condF rfl ?_
          all_goals (refine AWP.skip ?_)))
      all_goals (refine AWP.lastR rfl ?_)
      all_goals (first | (refine ASL.light rfl rfl (opAdd rfl rfl rfl (by omega)) ?_) | (refine ASL.light rfl rfl (opInt rfl rfl rfl rfl) ?_))
      all_goals (refine ASL.light rfl rfl (opMove (v := .int _ _) rfl rfl) ?_)
      all_goals (refine ASL.done ?_)
      all_goals (exact ⟨i + 1, ⟨by omega, orI_miss (by omega) hI0.2 (by assumption)⟩, by omega, ⟨rfl, rfl, rfl, rfl, trivial⟩, rfl⟩)))
  all_goals (refine AWP.seqR rfl ?_)
  all_goals (refine ASL.light rfl rfl (opMove (v := .int _ _) rfl rfl) ?_)
  all_goals (refine ASL.light rfl rfl (opAssign (v := .int _ _) rfl rfl) ?_)
  all_goals (refine ASL.done ?_)
  all_goals (refine AWP.ret ?_)
  all_goals (repeat with_reducible refine QThen.ret1 ?_)
  all_goals (exact QRet.int rfl rfl rfl (by first | exact orI_hit (i := i) (by omega) hI0.2 (by assumption) | exact orI_end (i := i) (by omega) hI0.2))

set_option maxRecDepth 10000 in
theorem impl_compareEdges (e f : EdgeD) : PC Try.prog 112 [edgeA e, edgeA f] (fun v => v = .int .i64 (cmpE e f)) := by
  refine PC.enter Try.func112 rfl Try.ntmps112 (by simp) ?_
  all_goals (refine AWP.seqR rfl ?_)
  all_goals (refine ASL.boxI rfl rfl rfl rfl rfl ?_)
  all_goals (refine ASL.boxI rfl rfl rfl rfl rfl ?_)
  all_goals (refine ASL.light rfl rfl (opAssign (v := .int _ _) rfl rfl) ?_)
  all_goals (refine ASL.done ?_)
  all_goals (refine AWP.seqD [(0, false), (1, false), (2, false), (3, false), (4, false), (5, false), (6, false), (7, false), (8, false), (9, false), (10, false), (11, false), (12, false), (13, false), (14, false), (15, true), (16, false), (17, false)] mixed (by kernel_rfl) rfl ?_)
  all_goals (first | (refine ARL.light0 rfl rfl rfl (opFieldAddrR rfl fieldA_96_0 rfl rfl) ?_) | (refine ARL.light0 rfl rfl rfl (opFieldAddr rfl fieldA_96_0 rfl rfl) ?_))
  all_goals (first | (refine ARL.light0 rfl rfl rfl (opLoadR (v := .int _ _) rfl aggA_3 rfl rfl) ?_) | (refine ARL.light rfl rfl rfl (opLoadOwnI rfl aggA_3 rfl (by assumption) (by first | omega | (simp; omega))) (by intro b_ hb_; rw [List.mem_singleton.mp hb_]; exact Own.alive (by assumption) (by first | omega | (simp; omega))) ?_))
  all_goals (first | (refine ARL.light0 rfl rfl rfl (opFieldAddrR rfl fieldA_96_0 rfl rfl) ?_) | (refine ARL.light0 rfl rfl rfl (opFieldAddr rfl fieldA_96_0 rfl rfl) ?_))
  all_goals (first | (refine ARL.light0 rfl rfl rfl (opLoadR (v := .int _ _) rfl aggA_3 rfl rfl) ?_) | (refine ARL.light rfl rfl rfl (opLoadOwnI rfl aggA_3 rfl (by assumption) (by first | omega | (simp; omega))) (by intro b_ hb_; rw [List.mem_singleton.mp hb_]; exact Own.alive (by assumption) (by first | omega | (simp; omega))) ?_))
  all_goals (refine ARL.callP rfl rfl rfl rfl call_135 (cmp_Compare_int _ _) rfl ?_; rintro _ rfl)
  all_goals (first | (refine ARL.light0 rfl rfl rfl (opFieldAddrR rfl fieldA_96_1 rfl rfl) ?_) | (refine ARL.light0 rfl rfl rfl (opFieldAddr rfl fieldA_96_1 rfl rfl) ?_))
  all_goals (first | (refine ARL.light0 rfl rfl rfl (opLoadR (v := .int _ _) rfl aggA_3 rfl rfl) ?_) | (refine ARL.light rfl rfl rfl (opLoadOwnI rfl aggA_3 rfl (by assumption) (by first | omega | (simp; omega))) (by intro b_ hb_; rw [List.mem_singleton.mp hb_]; exact Own.alive (by assumption) (by first | omega | (simp; omega))) ?_))
  all_goals (first | (refine ARL.light0 rfl rfl rfl (opFieldAddrR rfl fieldA_96_1 rfl rfl) ?_) | (refine ARL.light0 rfl rfl rfl (opFieldAddr rfl fieldA_96_1 rfl rfl) ?_))
  all_goals (first | (refine ARL.light0 rfl rfl rfl (opLoadR (v := .int _ _) rfl aggA_3 rfl rfl) ?_) | (refine ARL.light rfl rfl rfl (opLoadOwnI rfl aggA_3 rfl (by assumption) (by first | omega | (simp; omega))) (by intro b_ hb_; rw [List.mem_singleton.mp hb_]; exact Own.alive (by assumption) (by first | omega | (simp; omega))) ?_))
  all_goals (refine ARL.callP rfl rfl rfl rfl call_135 (cmp_Compare_int _ _) rfl ?_; rintro _ rfl)
  all_goals (first | (refine ARL.light0 rfl rfl rfl (opFieldAddrR rfl fieldA_96_2 rfl rfl) ?_) | (refine ARL.light0 rfl rfl rfl (opFieldAddr rfl fieldA_96_2 rfl rfl) ?_))
  all_goals (first | (refine ARL.light0 rfl rfl rfl (opLoadR (v := .int _ _) rfl aggA_3 rfl rfl) ?_) | (refine ARL.light rfl rfl rfl (opLoadOwnI rfl aggA_3 rfl (by assumption) (by first | omega | (simp; omega))) (by intro b_ hb_; rw [List.mem_singleton.mp hb_]; exact Own.alive (by assumption) (by first | omega | (simp; omega))) ?_))
  all_goals (first | (refine ARL.light0 rfl rfl rfl (opFieldAddrR rfl fieldA_96_2 rfl rfl) ?_) | (refine ARL.light0 rfl rfl rfl (opFieldAddr rfl fieldA_96_2 rfl rfl) ?_))
  all_goals (first | (refine ARL.light0 rfl rfl rfl (opLoadR (v := .int _ _) rfl aggA_3 rfl rfl) ?_) | (refine ARL.light rfl rfl rfl (opLoadOwnI rfl aggA_3 rfl (by assumption) (by first | omega | (simp; omega))) (by intro b_ hb_; rw [List.mem_singleton.mp hb_]; exact Own.alive (by assumption) (by first | omega | (simp; omega))) ?_))
  all_goals (refine ARL.callP rfl rfl rfl rfl call_135 (cmp_Compare_int _ _) rfl ?_; rintro _ rfl)
  all_goals (refine ARL.keep1 rfl rfl rfl (opBuildSliceI (xs := [.int _ _, .int _ _, .int _ _]) rfl elemA_22 sizeA_3 zeroA_3 rfl rfl rfl rfl (by simp [cells]) (by decide) ⟨fun _ _ h => h, ?_⟩))
  all_goals (refine ARL.callP rfl rfl rfl rfl call_134 (cmp_Or_int [_, _, _] (by simp)) rfl ?_; rintro _ rfl)
  all_goals (refine ARL.light0 rfl rfl rfl (opAssign (v := .int _ _) rfl rfl) ?_)
  all_goals (refine ARL.done ?_)
  all_goals (refine AWP.ret ?_)
  all_goals (repeat with_reducible refine QThen.ret1 ?_)
  all_goals (exact QRet.int rfl rfl rfl rfl)

set_option maxRecDepth 10000 in
theorem impl_AutoOk (a : AutoD) (hl : a.es.length ≤ 1048576) : PC Try.prog 75 [autoA a] (fun v => v = .bool (autoOk a)) := by
  refine PC.enter Try.func75 rfl Try.ntmps75 (by simp) ?_
  all_goals (refine AWP.seqR rfl ?_)
  all_goals (refine ASL.boxI rfl rfl rfl rfl rfl ?_)
  all_goals (refine ASL.light rfl rfl (opAssign (v := .bool _) rfl rfl) ?_)
  all_goals (refine ASL.done ?_)
  all_goals (refine AWP.seq ?_)
  all_goals (refine AWP.seqR rfl ?_)
  all_goals (first | (refine ASL.light rfl rfl (opFieldAddrR rfl fieldA_35_0 rfl rfl) ?_) | (refine ASL.light rfl rfl (opFieldAddr rfl fieldA_35_0 rfl rfl) ?_))
  all_goals (first | (refine ASL.light rfl rfl (opLoadR (v := .int _ _) rfl aggA_3 rfl rfl) ?_) | (refine ASL.light rfl rfl (opLoadOwnI rfl aggA_3 rfl (by assumption) (by first | omega | (simp; omega))) ?_))
  all_goals (first | (refine ASL.light rfl rfl (opFieldAddrR rfl fieldA_35_1 rfl rfl) ?_) | (refine ASL.light rfl rfl (opFieldAddr rfl fieldA_35_1 rfl rfl) ?_))
  all_goals (first | (refine ASL.light rfl rfl (opLoadR (v := .int _ _) rfl aggA_3 rfl rfl) ?_) | (refine ASL.light rfl rfl (opLoadOwnI rfl aggA_3 rfl (by assumption) (by first | omega | (simp; omega))) ?_))
  all_goals (first | (refine ASL.light rfl rfl (opFieldAddrR rfl fieldA_35_2 rfl rfl) ?_) | (refine ASL.light rfl rfl (opFieldAddr rfl fieldA_35_2 rfl rfl) ?_))
  all_goals (first | (refine ASL.light rfl rfl (opLoadR (v := .int _ _) rfl aggA_3 rfl rfl) ?_) | (refine ASL.light rfl rfl (opLoadOwnI rfl aggA_3 rfl (by assumption) (by first | omega | (simp; omega))) ?_))
  all_goals (refine ASL.callD rfl rfl rfl rfl call_111 (impl_headOk _ _ _) rfl ?_ ?_ <;> intro h11)
  all_goals (refine ASL.light rfl rfl (opNot rfl rfl) ?_)
  all_goals (refine ASL.light rfl rfl (opMove (v := .bool _) rfl rfl) ?_)
  all_goals (first | (refine ASL.off rfl rfl ?_) | (refine ASL.light rfl rfl (opFieldAddrR rfl fieldA_35_3 rfl rfl) ?_) | (refine ASL.light rfl rfl (opFieldAddr rfl fieldA_35_3 rfl rfl) ?_))
  all_goals (first | (refine ASL.off rfl rfl ?_) | (refine ASL.light rfl rfl (opLoadR (v := .list _ _) rfl aggA_33 rfl rfl) ?_) | (refine ASL.light rfl rfl (opLoadR (v := .slc _ _ _ _) rfl aggA_33 rfl rfl) ?_) | (refine ASL.light rfl rfl (opLoadR (v := .nil) rfl aggA_33 rfl rfl) ?_) | (refine ASL.light rfl rfl (opLoadOwnM rfl aggA_33 rfl (by assumption) (by first | omega | (simp; omega)) (fun _ => rfl)) ?_))
  all_goals (first | (refine ASL.off rfl rfl ?_) | (refine ASL.light rfl rfl (opLenMap rfl rfl rfl lenT_33 rfl) ?_) | (refine ASL.light rfl rfl (opLenOf rfl rfl rfl lenT_33 rfl rfl) ?_))
  all_goals (first | (refine ASL.off rfl rfl ?_) | (refine ASL.dec rfl rfl (opInt rfl rfl rfl rfl) ?_ ?_ <;> intro h17))
  all_goals (refine ASL.light rfl rfl (opPick (v := .bool _) rfl rfl rfl) ?_)
  all_goals (refine ASL.done ?_)
  all_goals (first
    | (
      refine AWP.condT rfl ?_
      all_goals (refine AWP.seqR rfl ?_)
      all_goals (refine ASL.light rfl rfl (opAssign (v := .bool _) rfl rfl) ?_)
      all_goals (refine ASL.done ?_)
      all_goals (refine AWP.ret ?_)
      all_goals (repeat with_reducible refine QThen.ret1 ?_)
      all_goals (exact QRet.bool rfl rfl rfl (by first | exact autoOk_head (headNo (by assumption)) | exact autoOk_head (fun hh => by obtain ⟨g1, g2, g3, g4⟩ := hh; first | contradiction | omega | exact absurd ((setIn_pow g2).mpr g3) (by assumption)) | exact autoOk_edge (j := i) (by omega) (fun hh => by obtain ⟨g1, g2, g3, g4⟩ := hh; first | contradiction | (rw [show ((i : Int) - 1).toNat = i - 1 by omega] at *; first | exact absurd (g4 (by omega)) (by assumption) | (have := (cmpE_lt _ _).mpr (g4 (by omega)); omega))) | exact autoOk_all ⟨by assumption, by assumption, (setIn_pow (by assumption)).mp (by assumption), by omega⟩ (fun j hj => hI0.2 j (by omega)) | (obtain ⟨q1, q2, q3⟩ := (by assumption : (1 ≤ a.l ∧ a.l ≤ 8) ∧ (0 ≤ a.n ∧ a.n ≤ 31) ∧ (0 ≤ a.s ∧ a.s < ((2 ^ a.n.toNat : Nat) : Int))); exact autoOk_all ⟨q1, q2, q3, by omega⟩ (fun j hj => hI0.2 j (by omega))))))
    | (
      refine AWP.condF rfl ?_
      all_goals (refine AWP.skip ?_)
      all_goals (refine AWP.seq ?_)
      all_goals (refine AWP.seqR rfl ?_)
      all_goals (first | (refine ASL.light rfl rfl (opFieldAddrR rfl fieldA_35_3 rfl rfl) ?_) | (refine ASL.light rfl rfl (opFieldAddr rfl fieldA_35_3 rfl rfl) ?_))
      all_goals (first | (refine ASL.light rfl rfl (opLoadR (v := .list _ _) rfl aggA_33 rfl rfl) ?_) | (refine ASL.light rfl rfl (opLoadR (v := .slc _ _ _ _) rfl aggA_33 rfl rfl) ?_) | (refine ASL.light rfl rfl (opLoadR (v := .nil) rfl aggA_33 rfl rfl) ?_) | (refine ASL.light rfl rfl (opLoadOwnM rfl aggA_33 rfl (by assumption) (by first | omega | (simp; omega)) (fun _ => rfl)) ?_))
      all_goals (first | (refine ASL.light rfl rfl (opLenMap rfl rfl rfl lenT_33 rfl) ?_) | (refine ASL.light rfl rfl (opLenOf rfl rfl rfl lenT_33 rfl rfl) ?_))
      all_goals (refine ASL.light rfl rfl (opMove (v := .int _ _) rfl rfl) ?_)
      all_goals (refine ASL.done ?_)
      all_goals (refine AWP.block ?_)
      all_goals (refine AWP.loopL (α := Nat) (fun i => [(1, .rptr [.int .i64 a.l, .int .i64 a.n, .int .i64 a.s, .list 4 (a.es.map edgeA)]), (20, .list 4 (a.es.map edgeA)), (21, .int .i64 a.es.length), (22, .int .i64 i)]) (fun i G => G = fun _ => none) (fun i => a.es.length - i) (fun i => i ≤ a.es.length ∧ ∀ j, j < i → edgeP a j) 0 ⟨by omega, fun j hj => by omega⟩ ⟨rfl, rfl, rfl, rfl, trivial⟩ rfl ?_)
      rintro i G0 hI0 rfl
      all_goals (refine AWP.seqR rfl ?_)
      all_goals (refine ASL.dec rfl rfl (opInt rfl rfl rfl rfl) ?_ ?_ <;> intro h23)
      all_goals (refine ASL.done ?_)
      all_goals (refine AWP.seq ?_)
      all_goals (first
        | (
          refine AWP.condF rfl ?_
          all_goals (refine AWP.exit ?_))
        | (
          refine AWP.condT rfl ?_
          all_goals (refine AWP.skip ?_)
          all_goals (refine AWP.seq ?_)
          all_goals (refine AWP.block ?_)
          all_goals (refine AWP.seqR rfl ?_)
          all_goals (refine ASL.light rfl rfl (opMove (v := .int _ _) rfl rfl) ?_)
          all_goals (first | (refine ASL.light rfl rfl (opIndexN rfl rfl rfl elemA_33 sizeA_96 (by omega) rfl) ?_) | (refine ASL.light rfl rfl (opIndexMap rfl rfl rfl elemA_33 sizeA_96 (by omega) (by omega) rfl) ?_) | (refine ASL.light rfl rfl (opIndexAddrN rfl rfl rfl elemA_33 sizeA_96 (by omega)) ?_) | (refine ASL.light rfl rfl (opIndexAddr rfl rfl rfl elemA_33 sizeA_96 (by omega) (by omega) rfl) ?_))
          all_goals (refine ASL.light rfl rfl (opLoadRA rfl aggA_96 sizeA_96 rfl (by first | exact Nat.le_of_ble_eq_true rfl | (simp; done)) rfl) ?_)
          all_goals (refine ASL.heavy1 rfl rfl (opAlloc rfl zeroA_96 ?_); intro b4 hb4)
          all_goals (refine ASL.light rfl rfl (opAssign (v := .int _ _) rfl rfl) ?_)
          all_goals (refine ASL.store rfl rfl (opStoreNew rfl sizeA_96 rfl rfl (Heap.set_same _ _ _) rfl rfl rfl rfl ?_))
          all_goals (refine ASL.done ?_)
          all_goals (refine AWP.seq ?_)
          all_goals ((refine AWP.settle 4 rfl (Heap.set_same _ _ _) hb4 (fun c x hc hne => by rw [Heap.set_ne _ _ hne, Heap.set_ne _ _ hne]; exact hc) ?_))
          all_goals (refine AWP.seqR rfl ?_)
          all_goals (first | (refine ASL.light rfl rfl (opFieldAddrR rfl fieldA_96_0 rfl rfl) ?_) | (refine ASL.light rfl rfl (opFieldAddr rfl fieldA_96_0 rfl rfl) ?_))
          all_goals (first | (refine ASL.light rfl rfl (opLoadR (v := .int _ _) rfl aggA_3 rfl rfl) ?_) | (refine ASL.light rfl rfl (opLoadOwnI rfl aggA_3 rfl (by assumption) (by first | omega | (simp; omega))) ?_))
          all_goals (first | (refine ASL.light rfl rfl (opFieldAddrR rfl fieldA_35_1 rfl rfl) ?_) | (refine ASL.light rfl rfl (opFieldAddr rfl fieldA_35_1 rfl rfl) ?_))
          all_goals (first | (refine ASL.light rfl rfl (opLoadR (v := .int _ _) rfl aggA_3 rfl rfl) ?_) | (refine ASL.light rfl rfl (opLoadOwnI rfl aggA_3 rfl (by assumption) (by first | omega | (simp; omega))) ?_))
          all_goals (first | (refine ASL.light rfl rfl (opSub rfl rfl rfl (by omega)) ?_) | (refine ASL.light rfl rfl (opInt rfl rfl rfl rfl) ?_))
          all_goals (refine ASL.callD rfl rfl rfl rfl call_65 (impl_inRange _ _ _) rfl ?_ ?_ <;> intro h32)
          all_goals (refine ASL.light rfl rfl (opNot rfl rfl) ?_)
          all_goals (refine ASL.light rfl rfl (opMove (v := .bool _) rfl rfl) ?_)
          all_goals (first | (refine ASL.off rfl rfl ?_) | (refine ASL.light rfl rfl (opFieldAddrR rfl fieldA_96_2 rfl rfl) ?_) | (refine ASL.light rfl rfl (opFieldAddr rfl fieldA_96_2 rfl rfl) ?_))
          all_goals (first | (refine ASL.off rfl rfl ?_) | (refine ASL.light rfl rfl (opLoadR (v := .int _ _) rfl aggA_3 rfl rfl) ?_) | (refine ASL.light rfl rfl (opLoadOwnI rfl aggA_3 rfl (by assumption) (by first | omega | (simp; omega))) ?_))
          all_goals (first | (refine ASL.off rfl rfl ?_) | (refine ASL.light rfl rfl (opFieldAddrR rfl fieldA_35_1 rfl rfl) ?_) | (refine ASL.light rfl rfl (opFieldAddr rfl fieldA_35_1 rfl rfl) ?_))
          all_goals (first | (refine ASL.off rfl rfl ?_) | (refine ASL.light rfl rfl (opLoadR (v := .int _ _) rfl aggA_3 rfl rfl) ?_) | (refine ASL.light rfl rfl (opLoadOwnI rfl aggA_3 rfl (by assumption) (by first | omega | (simp; omega))) ?_))
          all_goals (first | (refine ASL.off rfl rfl ?_) | (refine ASL.light rfl rfl (opSub rfl rfl rfl (by omega)) ?_) | (refine ASL.light rfl rfl (opInt rfl rfl rfl rfl) ?_))
          all_goals (first | (refine ASL.off rfl rfl ?_) | (refine ASL.callD rfl rfl rfl rfl call_65 (impl_inRange _ _ _) rfl ?_ ?_ <;> intro h40))
          all_goals (first | (refine ASL.off rfl rfl ?_) | (refine ASL.light rfl rfl (opNot rfl rfl) ?_))
          all_goals (refine ASL.light rfl rfl (opPick (v := .bool _) rfl rfl rfl) ?_)
          all_goals (refine ASL.light rfl rfl (opMove (v := .bool _) rfl rfl) ?_)
          all_goals (first | (refine ASL.off rfl rfl ?_) | (refine ASL.light rfl rfl (opFieldAddrR rfl fieldA_96_1 rfl rfl) ?_) | (refine ASL.light rfl rfl (opFieldAddr rfl fieldA_96_1 rfl rfl) ?_))
          all_goals (first | (refine ASL.off rfl rfl ?_) | (refine ASL.light rfl rfl (opLoadR (v := .int _ _) rfl aggA_3 rfl rfl) ?_) | (refine ASL.light rfl rfl (opLoadOwnI rfl aggA_3 rfl (by assumption) (by first | omega | (simp; omega))) ?_))
          all_goals (first | (refine ASL.off rfl rfl ?_) | (refine ASL.light rfl rfl (opFieldAddrR rfl fieldA_35_0 rfl rfl) ?_) | (refine ASL.light rfl rfl (opFieldAddr rfl fieldA_35_0 rfl rfl) ?_))
          all_goals (first | (refine ASL.off rfl rfl ?_) | (refine ASL.light rfl rfl (opLoadR (v := .int _ _) rfl aggA_3 rfl rfl) ?_) | (refine ASL.light rfl rfl (opLoadOwnI rfl aggA_3 rfl (by assumption) (by first | omega | (simp; omega))) ?_))
          all_goals (first | (refine ASL.off rfl rfl ?_) | (refine ASL.light rfl rfl (opSub rfl rfl rfl (by omega)) ?_) | (refine ASL.light rfl rfl (opInt rfl rfl rfl rfl) ?_))
          all_goals (first | (refine ASL.off rfl rfl ?_) | (refine ASL.callD rfl rfl rfl rfl call_65 (impl_inRange _ _ _) rfl ?_ ?_ <;> intro h49))
          all_goals (first | (refine ASL.off rfl rfl ?_) | (refine ASL.light rfl rfl (opNot rfl rfl) ?_))
          all_goals (refine ASL.light rfl rfl (opPick (v := .bool _) rfl rfl rfl) ?_)
          all_goals (refine ASL.done ?_)
          all_goals (first
            | (
              refine AWP.condT rfl ?_
              all_goals (refine AWP.seqR rfl ?_)
              all_goals (refine ASL.light rfl rfl (opAssign (v := .bool _) rfl rfl) ?_)
              all_goals (refine ASL.done ?_)
              all_goals (refine AWP.ret ?_)
              all_goals (repeat with_reducible refine QThen.ret1 ?_)
              all_goals (exact QRet.bool rfl rfl rfl (by first | exact autoOk_head (headNo (by assumption)) | exact autoOk_head (fun hh => by obtain ⟨g1, g2, g3, g4⟩ := hh; first | contradiction | omega | exact absurd ((setIn_pow g2).mpr g3) (by assumption)) | exact autoOk_edge (j := i) (by omega) (fun hh => by obtain ⟨g1, g2, g3, g4⟩ := hh; first | contradiction | (rw [show ((i : Int) - 1).toNat = i - 1 by omega] at *; first | exact absurd (g4 (by omega)) (by assumption) | (have := (cmpE_lt _ _).mpr (g4 (by omega)); omega))) | exact autoOk_all ⟨by assumption, by assumption, (setIn_pow (by assumption)).mp (by assumption), by omega⟩ (fun j hj => hI0.2 j (by omega)) | (obtain ⟨q1, q2, q3⟩ := (by assumption : (1 ≤ a.l ∧ a.l ≤ 8) ∧ (0 ≤ a.n ∧ a.n ≤ 31) ∧ (0 ≤ a.s ∧ a.s < ((2 ^ a.n.toNat : Nat) : Int))); exact autoOk_all ⟨q1, q2, q3, by omega⟩ (fun j hj => hI0.2 j (by omega))))))
            | (
              refine AWP.condF rfl ?_
              all_goals (refine AWP.skip ?_)
              all_goals (refine AWP.seqD [(0, false), (1, false), (2, false), (3, false), (4, false), (5, false), (6, false), (7, false), (8, false), (9, false), (10, false), (11, false), (12, false)] mixed (by kernel_rfl) rfl ?_)
              all_goals (refine ARL.light0 rfl rfl rfl (opMove (v := .int _ _) rfl rfl) ?_)
              all_goals (refine ARL.dec rfl rfl rfl (opInt rfl rfl rfl rfl) ?_ ?_ <;> intro h53)
              all_goals (refine ARL.light0 rfl rfl rfl (opMove (v := .bool _) rfl rfl) ?_)
              all_goals (first | (refine ARL.off rfl rfl ?_) | (refine ARL.light0 rfl rfl rfl (opFieldAddrR rfl fieldA_35_3 rfl rfl) ?_) | (refine ARL.light0 rfl rfl rfl (opFieldAddr rfl fieldA_35_3 rfl rfl) ?_))
              all_goals (first | (refine ARL.off rfl rfl ?_) | (refine ARL.light0 rfl rfl rfl (opLoadR (v := .list _ _) rfl aggA_33 rfl rfl) ?_) | (refine ARL.light0 rfl rfl rfl (opLoadR (v := .slc _ _ _ _) rfl aggA_33 rfl rfl) ?_) | (refine ARL.light0 rfl rfl rfl (opLoadR (v := .nil) rfl aggA_33 rfl rfl) ?_) | (refine ARL.light rfl rfl rfl (opLoadOwnM rfl aggA_33 rfl (by assumption) (by first | omega | (simp; omega)) (fun _ => rfl)) (by intro b_ hb_; rw [List.mem_singleton.mp hb_]; exact Own.alive (by assumption) (by first | omega | (simp; omega))) ?_))
              all_goals (first | (refine ARL.off rfl rfl ?_) | (refine ARL.light0 rfl rfl rfl (opMove (v := .int _ _) rfl rfl) ?_))
              all_goals (first | (refine ARL.off rfl rfl ?_) | (refine ARL.light0 rfl rfl rfl (opSub rfl rfl rfl (by omega)) ?_) | (refine ARL.light0 rfl rfl rfl (opInt rfl rfl rfl rfl) ?_))
              all_goals (first | (refine ARL.off rfl rfl ?_) | (refine ARL.light0 rfl rfl rfl (opIndexN rfl rfl rfl elemA_33 sizeA_96 (by omega) rfl) ?_) | (refine ARL.light0 rfl rfl rfl (opIndexMap rfl rfl rfl elemA_33 sizeA_96 (by omega) (by omega) rfl) ?_) | (refine ARL.light0 rfl rfl rfl (opIndexAddrN rfl rfl rfl elemA_33 sizeA_96 (by omega)) ?_) | (refine ARL.light0 rfl rfl rfl (opIndexAddr rfl rfl rfl elemA_33 sizeA_96 (by omega) (by omega) rfl) ?_))
              all_goals (first | (refine ARL.off rfl rfl ?_) | (refine ARL.light0 rfl rfl rfl (opLoadRA rfl aggA_96 sizeA_96 rfl (by first | exact Nat.le_of_ble_eq_true rfl | (simp; done)) rfl) ?_))
              all_goals (first | (refine ARL.off rfl rfl ?_) | (refine ARL.light0 rfl rfl rfl (opLoadRA rfl aggA_96 sizeA_96 rfl (by first | exact Nat.le_of_ble_eq_true rfl | (simp; done)) rfl) ?_))
              all_goals (first | (refine ARL.off rfl rfl ?_) | (refine ARL.callP rfl rfl rfl rfl call_112 (impl_compareEdges _ _) rfl ?_; rintro _ rfl))
              all_goals (first | (refine ARL.off rfl rfl ?_) | (refine ARL.dec rfl rfl rfl (opInt rfl rfl rfl rfl) ?_ ?_ <;> intro h63))
              all_goals (refine ARL.light0 rfl rfl rfl (opPick (v := .bool _) rfl rfl rfl) ?_)
              all_goals (refine ARL.done ?_)
              all_goals (first
                | (
                  refine AWP.condT rfl ?_
                  all_goals (refine AWP.seqR rfl ?_)
                  all_goals (refine ASL.light rfl rfl (opAssign (v := .bool _) rfl rfl) ?_)
                  all_goals (refine ASL.done ?_)
                  all_goals (refine AWP.ret ?_)
                  all_goals (repeat with_reducible refine QThen.ret1 ?_)
                  all_goals (exact QRet.bool rfl rfl rfl (by first | exact autoOk_head (headNo (by assumption)) | exact autoOk_head (fun hh => by obtain ⟨g1, g2, g3, g4⟩ := hh; first | contradiction | omega | exact absurd ((setIn_pow g2).mpr g3) (by assumption)) | exact autoOk_edge (j := i) (by omega) (fun hh => by obtain ⟨g1, g2, g3, g4⟩ := hh; first | contradiction | (rw [show ((i : Int) - 1).toNat = i - 1 by omega] at *; first | exact absurd (g4 (by omega)) (by assumption) | (have := (cmpE_lt _ _).mpr (g4 (by omega)); omega))) | exact autoOk_all ⟨by assumption, by assumption, (setIn_pow (by assumption)).mp (by assumption), by omega⟩ (fun j hj => hI0.2 j (by omega)) | (obtain ⟨q1, q2, q3⟩ := (by assumption : (1 ≤ a.l ∧ a.l ≤ 8) ∧ (0 ≤ a.n ∧ a.n ≤ 31) ∧ (0 ≤ a.s ∧ a.s < ((2 ^ a.n.toNat : Nat) : Int))); exact autoOk_all ⟨q1, q2, q3, by omega⟩ (fun j hj => hI0.2 j (by omega))))))
                | (
                  refine AWP.condF rfl ?_
                  all_goals (refine AWP.skip ?_)))))
          all_goals (refine AWP.lastR rfl ?_)
          all_goals (first | (refine ASL.light rfl rfl (opAdd rfl rfl rfl (by omega)) ?_) | (refine ASL.light rfl rfl (opInt rfl rfl rfl rfl) ?_))
          all_goals (refine ASL.light rfl rfl (opMove (v := .int _ _) rfl rfl) ?_)
          all_goals (refine ASL.done ?_)
          all_goals (exact ⟨i + 1, ⟨by omega, edgeP_next hI0.2 ⟨by assumption, by assumption, by assumption, fun hi => by first | omega | (rw [show ((i : Int) - 1).toNat = i - 1 by omega] at *; exact (cmpE_lt _ _).mp (by omega))⟩⟩, by omega, ⟨rfl, rfl, rfl, rfl, trivial⟩, rfl⟩)))
      all_goals (refine AWP.seqR rfl ?_)
      all_goals (refine ASL.light rfl rfl (opAssign (v := .bool _) rfl rfl) ?_)
      all_goals (refine ASL.done ?_)
      all_goals (refine AWP.ret ?_)
      all_goals (repeat with_reducible refine QThen.ret1 ?_)
      all_goals (exact QRet.bool rfl rfl rfl (by first | exact autoOk_head (headNo (by assumption)) | exact autoOk_head (fun hh => by obtain ⟨g1, g2, g3, g4⟩ := hh; first | contradiction | omega | exact absurd ((setIn_pow g2).mpr g3) (by assumption)) | exact autoOk_edge (j := i) (by omega) (fun hh => by obtain ⟨g1, g2, g3, g4⟩ := hh; first | contradiction | (rw [show ((i : Int) - 1).toNat = i - 1 by omega] at *; first | exact absurd (g4 (by omega)) (by assumption) | (have := (cmpE_lt _ _).mpr (g4 (by omega)); omega))) | exact autoOk_all ⟨by assumption, by assumption, (setIn_pow (by assumption)).mp (by assumption), by omega⟩ (fun j hj => hI0.2 j (by omega)) | (obtain ⟨q1, q2, q3⟩ := (by assumption : (1 ≤ a.l ∧ a.l ≤ 8) ∧ (0 ≤ a.n ∧ a.n ≤ 31) ∧ (0 ≤ a.s ∧ a.s < ((2 ^ a.n.toNat : Nat) : Int))); exact autoOk_all ⟨q1, q2, q3, by omega⟩ (fun j hj => hI0.2 j (by omega)))))))

end Go.Proofs.Ytcmlckgdhnffmaa
