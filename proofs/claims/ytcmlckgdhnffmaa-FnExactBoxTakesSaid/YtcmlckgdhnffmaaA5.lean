/- The contracts of some of the program's functions: A5. -/
import Derived.Test.YtcmlckgdhnffmaaA4
import Derived.Test.YtcmlckgdhnffmaaE12
import Derived.Test.YtcmlckgdhnffmaaProg
namespace Go.Proofs.Ytcmlckgdhnffmaa
open Go Go.RowKit E
set_option linter.unusedVariables false

theorem consOf {ys : List AV} {n : Nat} (h : ys.length = n + 1) : ∃ x r, ys = x :: r ∧ r.length = n := by
  cases ys with
  | nil => simp at h
  | cons x r => exact ⟨x, r, rfl, by simpa using h⟩
structure NfaD where
  a : AutoD
  f : Int
  deriving Inhabited, DecidableEq
def nfaA (n : NfaD) : AV := .agg [.int .i64 n.a.l, .int .i64 n.a.n, .int .i64 n.a.s, .list 4 (n.a.es.map edgeA), .int .i64 n.f]
theorem EdgeD.neP {e f : EdgeD} (h : e.p ≠ f.p) : false = decide (e = f) := by symm; apply decide_eq_false; rintro rfl; exact h rfl
theorem EdgeD.neL {e f : EdgeD} (h : e.l ≠ f.l) : false = decide (e = f) := by symm; apply decide_eq_false; rintro rfl; exact h rfl
theorem EdgeD.neQ {e f : EdgeD} (h : e.q ≠ f.q) : false = decide (e = f) := by symm; apply decide_eq_false; rintro rfl; exact h rfl

theorem autoOk_inv {a : AutoD} (h : autoOk a = true) : headP a ∧ ∀ j, j < a.es.length → edgeP a j := by
  unfold autoOk at h
  rw [Bool.and_eq_true, List.all_eq_true] at h
  exact ⟨of_decide_eq_true h.1, fun j hj => of_decide_eq_true (h.2 j (List.mem_range.mpr hj))⟩
def nfaOk (n : NfaD) : Bool := autoOk n.a && decide (0 ≤ n.f ∧ n.f < ((2 ^ n.a.n.toNat : Nat) : Int)) && n.a.es.all fun e => !e.g
theorem nfaOk_auto {n : NfaD} (h : autoOk n.a = false) : false = nfaOk n := by unfold nfaOk; rw [h]; rfl
theorem nfaOk_fin {n : NfaD} (h : ¬ (0 ≤ n.f ∧ n.f < ((2 ^ n.a.n.toNat : Nat) : Int))) : false = nfaOk n := by unfold nfaOk; rw [decide_eq_false h, Bool.and_false, Bool.false_and]
theorem nfaOk_good {n : NfaD} {j : Nat} (hj : j < n.a.es.length) (h : (n.a.es.getD j default).g = true) : false = nfaOk n := by
  have : (n.a.es.all fun e => !e.g) = false := by
    rw [← Bool.not_eq_true, List.all_eq_true]; intro k
    have := k _ (List.getElem_mem hj)
    simp [List.getD, List.getElem?_eq_getElem hj] at h
    rw [h] at this; cases this
  unfold nfaOk; rw [this, Bool.and_false]
theorem nfaOk_rest {n : NfaD} (h1 : autoOk n.a = true) (h : ∀ j, j < n.a.es.length → (n.a.es.getD j default).g = false) : decide (0 ≤ n.f ∧ n.f < ((2 ^ n.a.n.toNat : Nat) : Int)) = nfaOk n := by
  have : (n.a.es.all fun e => !e.g) = true := by
    rw [List.all_eq_true]; intro e he
    obtain ⟨j, hj, rfl⟩ := List.getElem_of_mem he
    have := h j hj
    simp [List.getD, List.getElem?_eq_getElem hj] at this
    rw [this]; rfl
  unfold nfaOk; rw [this, h1, Bool.and_true, Bool.true_and]
theorem notGood {es : List EdgeD} {i : Nat} (h : ∀ j, j < i → (es.getD j default).g = false) (k : (es.getD i default).g = false) : ∀ j, j < i + 1 → (es.getD j default).g = false := fun j hj => by
  by_cases e : j = i
  · subst e; exact k
  · exact h j (by omega)

theorem fieldA_140_0 : fieldA Try.prog 140 0 = some 0 := by kernel_rfl
theorem fieldA_140_1 : fieldA Try.prog 140 1 = some 1 := by kernel_rfl
theorem fieldA_140_2 : fieldA Try.prog 140 2 = some 2 := by kernel_rfl
theorem fieldA_140_3 : fieldA Try.prog 140 3 = some 3 := by kernel_rfl
theorem aggA_4 : aggA Try.prog 4 = some false := by kernel_rfl
theorem fieldA_96_3 : fieldA Try.prog 96 3 = some 3 := by kernel_rfl
theorem sizeA_4 : sizeA Try.prog 4 = some 1 := by kernel_rfl
theorem lenT_45 : lenT Try.prog 45 = some false := by kernel_rfl
theorem bytesA_96 : bytesA Try.prog 96 = some 32 := by kernel_rfl
theorem elemA_45 : elemA Try.prog 45 = some 140 := by kernel_rfl
theorem sizeA_140 : sizeA Try.prog 140 = some 4 := by kernel_rfl
theorem aggA_140 : aggA Try.prog 140 = some true := by kernel_rfl
theorem call_121 : callable Try.prog 121 = true := by kernel_rfl
theorem aggA_35 : aggA Try.prog 35 = some true := by kernel_rfl
theorem sizeA_35 : sizeA Try.prog 35 = some 4 := by kernel_rfl
theorem zeroA_35 : zeroA Try.prog 35 = some (.agg #[(.int .i64 0), (.int .i64 0), (.int .i64 0), (.slice none 0 0)]) := by kernel_rfl
theorem fieldA_47_0 : fieldA Try.prog 47 0 = some 0 := by kernel_rfl
theorem fieldA_47_1 : fieldA Try.prog 47 1 = some 1 := by kernel_rfl
theorem fieldA_47_2 : fieldA Try.prog 47 2 = some 2 := by kernel_rfl
theorem fieldA_47_3 : fieldA Try.prog 47 3 = some 3 := by kernel_rfl
theorem aggA_45 : aggA Try.prog 45 = some false := by kernel_rfl
theorem call_87 : callable Try.prog 87 = true := by kernel_rfl
theorem sizeA_33 : sizeA Try.prog 33 = some 1 := by kernel_rfl
theorem aggA_53 : aggA Try.prog 53 = some true := by kernel_rfl
theorem sizeA_53 : sizeA Try.prog 53 = some 5 := by kernel_rfl
theorem zeroA_53 : zeroA Try.prog 53 = some (.agg #[(.int .i64 0), (.int .i64 0), (.int .i64 0), (.slice none 0 0), (.int .i64 0)]) := by kernel_rfl
theorem fieldA_49_0 : fieldA Try.prog 49 0 = some 0 := by kernel_rfl
theorem aggA_47 : aggA Try.prog 47 = some true := by kernel_rfl
theorem sizeA_47 : sizeA Try.prog 47 = some 4 := by kernel_rfl
theorem call_40 : callable Try.prog 40 = true := by kernel_rfl
theorem fieldA_53_0 : fieldA Try.prog 53 0 = some 0 := by kernel_rfl
theorem fieldA_49_1 : fieldA Try.prog 49 1 = some 4 := by kernel_rfl
theorem fieldA_53_1 : fieldA Try.prog 53 1 = some 4 := by kernel_rfl
theorem call_83 : callable Try.prog 83 = true := by kernel_rfl
theorem call_37 : callable Try.prog 37 = true := by kernel_rfl
theorem call_122 : callable Try.prog 122 = true := by kernel_rfl
theorem call_90 : callable Try.prog 90 = true := by kernel_rfl
theorem call_43 : callable Try.prog 43 = true := by kernel_rfl
theorem call_27 : callable Try.prog 27 = true := by kernel_rfl
theorem call_75 : callable Try.prog 75 = true := by kernel_rfl
theorem call_32 : callable Try.prog 32 = true := by kernel_rfl
theorem aggA_49 : aggA Try.prog 49 = some true := by kernel_rfl
theorem sizeA_49 : sizeA Try.prog 49 = some 5 := by kernel_rfl
theorem call_34 : callable Try.prog 34 = true := by kernel_rfl
theorem call_33 : callable Try.prog 33 = true := by kernel_rfl
theorem call_35 : callable Try.prog 35 = true := by kernel_rfl
theorem call_36 : callable Try.prog 36 = true := by kernel_rfl
theorem cellsOf_3 : Try.prog.cellsOf 3 = 1 := by kernel_rfl
theorem cellsOf_4 : Try.prog.cellsOf 4 = 1 := by kernel_rfl
theorem cellsOf_140 : Try.prog.cellsOf 140 = 4 := by kernel_rfl
theorem cellsOf_45 : Try.prog.cellsOf 45 = 1 := by kernel_rfl
theorem cellsOf_47 : Try.prog.cellsOf 47 = 4 := by kernel_rfl
theorem cellsOf_49 : Try.prog.cellsOf 49 = 5 := by kernel_rfl
set_option maxRecDepth 10000 in
theorem laws_toEdge (e : EdgeD) : PC Try.prog 121 [edgeA e] (fun v => v = edgeA e) := by
  refine PC.enter Try.func121 rfl Try.ntmps121 (by simp) ?_
  all_goals (refine AWP.seqR rfl ?_)
  all_goals (refine ASL.boxI rfl rfl rfl rfl rfl ?_)
  all_goals (refine ASL.heavy1 rfl rfl (opAllocAt rfl zeroA_96 ?_); rintro b2 G2 hT2 hK2 hN2)
  all_goals (refine ASL.done ?_)
  all_goals (refine AWP.seqR rfl ?_)
  all_goals (refine ASL.heavy1 rfl rfl (opAllocAt rfl zeroA_96 ?_); rintro b3 G3 hT3 hK3 hN3; try (have hD3_2 := At.ne hT2 hN3); try (have hT2 := At.grow hT2 hK3))
  all_goals (refine ASL.done ?_)
  all_goals (refine AWP.seqR rfl ?_)
  all_goals (first | (refine ASL.light rfl rfl (opFieldAddrR rfl fieldA_140_0 rfl rfl) ?_) | (refine ASL.light rfl rfl (opFieldAddr rfl fieldA_140_0 rfl rfl) ?_))
  all_goals (first | (refine ASL.light rfl rfl (opLoadR (v := .int _ _) rfl aggA_3 rfl rfl) ?_) | (refine ASL.light rfl rfl (opLoadOwnI rfl aggA_3 rfl (by assumption) (by first | omega | (simp; omega))) ?_))
  all_goals (first | (refine ASL.light rfl rfl (opFieldAddrR rfl fieldA_96_0 rfl rfl) ?_) | (refine ASL.light rfl rfl (opFieldAddr rfl fieldA_96_0 rfl rfl) ?_))
  all_goals (refine ASL.store rfl rfl (opStoreAt rfl sizeA_3 rfl rfl hT3 rfl (by exact Nat.le_of_ble_eq_true rfl) ?_); rintro Gs1 hT3 hB1; try (have hT2 := At.near hT2 hB1 (by first | assumption | exact Ne.symm (by assumption))))
  all_goals (refine ASL.done ?_)
  all_goals (refine AWP.seqR rfl ?_)
  all_goals (first | (refine ASL.light rfl rfl (opFieldAddrR rfl fieldA_140_1 rfl rfl) ?_) | (refine ASL.light rfl rfl (opFieldAddr rfl fieldA_140_1 rfl rfl) ?_))
  all_goals (first | (refine ASL.light rfl rfl (opLoadR (v := .int _ _) rfl aggA_3 rfl rfl) ?_) | (refine ASL.light rfl rfl (opLoadOwnI rfl aggA_3 rfl (by assumption) (by first | omega | (simp; omega))) ?_))
  all_goals (first | (refine ASL.light rfl rfl (opFieldAddrR rfl fieldA_96_1 rfl rfl) ?_) | (refine ASL.light rfl rfl (opFieldAddr rfl fieldA_96_1 rfl rfl) ?_))
  all_goals (refine ASL.store rfl rfl (opStoreAt rfl sizeA_3 rfl rfl hT3 rfl (by exact Nat.le_of_ble_eq_true rfl) ?_); rintro Gs2 hT3 hB2; try (have hT2 := At.near hT2 hB2 (by first | assumption | exact Ne.symm (by assumption))))
  all_goals (refine ASL.done ?_)
  all_goals (refine AWP.seqR rfl ?_)
  all_goals (first | (refine ASL.light rfl rfl (opFieldAddrR rfl fieldA_140_2 rfl rfl) ?_) | (refine ASL.light rfl rfl (opFieldAddr rfl fieldA_140_2 rfl rfl) ?_))
  all_goals (first | (refine ASL.light rfl rfl (opLoadR (v := .int _ _) rfl aggA_3 rfl rfl) ?_) | (refine ASL.light rfl rfl (opLoadOwnI rfl aggA_3 rfl (by assumption) (by first | omega | (simp; omega))) ?_))
  all_goals (first | (refine ASL.light rfl rfl (opFieldAddrR rfl fieldA_96_2 rfl rfl) ?_) | (refine ASL.light rfl rfl (opFieldAddr rfl fieldA_96_2 rfl rfl) ?_))
  all_goals (refine ASL.store rfl rfl (opStoreAt rfl sizeA_3 rfl rfl hT3 rfl (by exact Nat.le_of_ble_eq_true rfl) ?_); rintro Gs3 hT3 hB3; try (have hT2 := At.near hT2 hB3 (by first | assumption | exact Ne.symm (by assumption))))
  all_goals (refine ASL.done ?_)
  all_goals (refine AWP.seqR rfl ?_)
  all_goals (first | (refine ASL.light rfl rfl (opFieldAddrR rfl fieldA_140_3 rfl rfl) ?_) | (refine ASL.light rfl rfl (opFieldAddr rfl fieldA_140_3 rfl rfl) ?_))
  all_goals (first | (refine ASL.light rfl rfl (opLoadR (v := .bool _) rfl aggA_4 rfl rfl) ?_) | (refine ASL.light rfl rfl (opLoadOwnM rfl aggA_4 rfl (by assumption) (by first | omega | (simp; omega)) (fun _ => rfl)) ?_))
  all_goals (first | (refine ASL.light rfl rfl (opFieldAddrR rfl fieldA_96_3 rfl rfl) ?_) | (refine ASL.light rfl rfl (opFieldAddr rfl fieldA_96_3 rfl rfl) ?_))
  all_goals (refine ASL.store rfl rfl (opStoreAt rfl sizeA_4 rfl rfl hT3 rfl (by exact Nat.le_of_ble_eq_true rfl) ?_); rintro Gs4 hT3 hB4; try (have hT2 := At.near hT2 hB4 (by first | assumption | exact Ne.symm (by assumption))))
  all_goals (refine ASL.done ?_)
  all_goals (refine AWP.seqR rfl ?_)
  all_goals (refine ASL.light rfl rfl (opLoadAtA rfl aggA_96 sizeA_96 rfl hT3 (Nat.le_of_ble_eq_true rfl)) ?_)
  all_goals (refine ASL.store rfl rfl (opStoreAtA rfl sizeA_96 rfl rfl hT2 rfl (by first | rfl | (simp [cells]; done)) (by first | rfl | (simp [cells]; done)) (Nat.le_of_ble_eq_true rfl) ?_); rintro Gs5 hT2 hB5; try (have hT3 := At.near hT3 hB5 (by first | assumption | exact Ne.symm (by assumption))))
  all_goals (refine ASL.done ?_)
  all_goals (refine AWP.ret ?_)
  all_goals (repeat with_reducible refine QThen.ret1 ?_)
  all_goals (refine QRet.cell rfl hT2 rfl aggA_96 sizeA_96 ?_; rfl)

set_option maxRecDepth 10000 in
theorem laws_toEdgeS (xs : List EdgeD) (hx : xs.length ≤ 1048576) : PO Try.prog 87 [.list 4 (xs.map edgeA)] 4 (xs.map edgeA) := by
  refine HC.enter Try.func87 rfl Try.ntmps87 (by simp) ?_
  all_goals (refine AWP.seqR rfl ?_)
  all_goals (first | (refine ASL.light rfl rfl (opAssign (v := .list _ _) rfl rfl) ?_) | (refine ASL.light rfl rfl (opAssign (v := .slc _ _ _ _) rfl rfl) ?_) | (refine ASL.light rfl rfl (opAssign (v := .nil) rfl rfl) ?_))
  all_goals (refine ASL.done ?_)
  all_goals (refine AWP.seqR rfl ?_)
  all_goals (first | (refine ASL.light rfl rfl (opMove (v := .list _ _) rfl rfl) ?_) | (refine ASL.light rfl rfl (opMove (v := .slc _ _ _ _) rfl rfl) ?_) | (refine ASL.light rfl rfl (opMove (v := .nil) rfl rfl) ?_))
  all_goals (first | (refine ASL.light rfl rfl (opLenMap rfl rfl rfl lenT_45 rfl) ?_) | (refine ASL.light rfl rfl (opLenOf rfl rfl rfl lenT_45 rfl rfl) ?_))
  all_goals (first | (refine ASL.heavy1 rfl rfl (opMakeN (f := edgeA) (z0 := default) rfl elemA_33 sizeA_96 bytesA_96 zeroA_96 rfl rfl (by decide) rfl rfl (by omega) (by omega) ?_); rintro b7 c7 G7 hO7 hK7 hN7) | (refine ASL.heavy1 rfl rfl (opMakeM (f := edgeA) (z0 := default) rfl elemA_33 sizeA_96 bytesA_96 zeroA_96 rfl rfl (by decide) rfl rfl (by omega) (by omega) (by omega) ?_); rintro b7 c7 G7 hO7 hK7 hN7))
  all_goals (first | (refine ASL.light rfl rfl (opAssign (v := .list _ _) rfl rfl) ?_) | (refine ASL.light rfl rfl (opAssign (v := .slc _ _ _ _) rfl rfl) ?_) | (refine ASL.light rfl rfl (opAssign (v := .nil) rfl rfl) ?_))
  all_goals (refine ASL.done ?_)
  all_goals (refine AWP.seq ?_)
  all_goals (refine AWP.seqR rfl ?_)
  all_goals (refine ASL.light rfl rfl (opAssign (v := .int _ _) rfl rfl) ?_)
  all_goals (refine ASL.done ?_)
  all_goals (refine AWP.block ?_)
  all_goals (refine AWP.loopL (α := Nat) (fun i => [(0, .list 4 (xs.map edgeA)), (3, .slc b7 0 xs.length c7), (4, .int .i64 i)]) (fun i G => Own 4 G (.slc b7 0 xs.length c7) ((xs.take i ++ List.replicate (xs.length - i) default).map edgeA)) (fun i => xs.length - i) (fun i => i ≤ xs.length) 0 (by omega) ⟨rfl, rfl, rfl, trivial⟩ (by rw [List.take_zero, List.nil_append, Nat.sub_zero]; exact hO7) ?_)
  rintro i G0 hI0 hO0
  all_goals (refine AWP.seq ?_)
  all_goals (refine AWP.seqR rfl ?_)
  all_goals (refine ASL.light rfl rfl (opMove (v := .int _ _) rfl rfl) ?_)
  all_goals (first | (refine ASL.light rfl rfl (opMove (v := .list _ _) rfl rfl) ?_) | (refine ASL.light rfl rfl (opMove (v := .slc _ _ _ _) rfl rfl) ?_) | (refine ASL.light rfl rfl (opMove (v := .nil) rfl rfl) ?_))
  all_goals (first | (refine ASL.light rfl rfl (opLenMap rfl rfl rfl lenT_45 rfl) ?_) | (refine ASL.light rfl rfl (opLenOf rfl rfl rfl lenT_45 rfl rfl) ?_))
  all_goals (refine ASL.dec rfl rfl (opInt rfl rfl rfl rfl) ?_ ?_ <;> intro h11)
  all_goals (refine ASL.done ?_)
  all_goals (first
    | (
      refine AWP.condF rfl ?_
      all_goals (refine AWP.exit ?_))
    | (
      refine AWP.condT rfl ?_
      all_goals (refine AWP.skip ?_)
      all_goals (refine AWP.seq ?_)
      all_goals (refine AWP.block ?_)
      all_goals (refine AWP.lastR rfl ?_)
      all_goals (first | (refine ASL.light rfl rfl (opMove (v := .list _ _) rfl rfl) ?_) | (refine ASL.light rfl rfl (opMove (v := .slc _ _ _ _) rfl rfl) ?_) | (refine ASL.light rfl rfl (opMove (v := .nil) rfl rfl) ?_))
      all_goals (refine ASL.light rfl rfl (opMove (v := .int _ _) rfl rfl) ?_)
      all_goals (first | (refine ASL.light rfl rfl (opMove (v := .list _ _) rfl rfl) ?_) | (refine ASL.light rfl rfl (opMove (v := .slc _ _ _ _) rfl rfl) ?_) | (refine ASL.light rfl rfl (opMove (v := .nil) rfl rfl) ?_))
      all_goals (refine ASL.light rfl rfl (opMove (v := .int _ _) rfl rfl) ?_)
      all_goals (first | (refine ASL.light rfl rfl (opIndexN rfl rfl rfl elemA_45 sizeA_140 (by omega) rfl) ?_) | (refine ASL.light rfl rfl (opIndexMap rfl rfl rfl elemA_45 sizeA_140 (by omega) (by omega) rfl) ?_) | (refine ASL.light rfl rfl (opIndexAddrN rfl rfl rfl elemA_45 sizeA_140 (by omega)) ?_) | (refine ASL.light rfl rfl (opIndexAddr rfl rfl rfl elemA_45 sizeA_140 (by omega) (by omega) rfl) ?_))
      all_goals (refine ASL.light rfl rfl (opLoadRA rfl aggA_140 sizeA_140 rfl (by first | exact Nat.le_of_ble_eq_true rfl | (simp; done)) rfl) ?_)
      all_goals (refine ASL.callP rfl rfl rfl rfl call_121 (laws_toEdge _) rfl ?_; rintro _ rfl)
      all_goals (first | (refine ASL.light rfl rfl (opIndexN rfl rfl rfl elemA_33 sizeA_96 (by omega) rfl) ?_) | (refine ASL.light rfl rfl (opIndexMap rfl rfl rfl elemA_33 sizeA_96 (by omega) (by omega) rfl) ?_) | (refine ASL.light rfl rfl (opIndexAddrN rfl rfl rfl elemA_33 sizeA_96 (by omega)) ?_) | (refine ASL.light rfl rfl (opIndexAddr rfl rfl rfl elemA_33 sizeA_96 (by omega) (by omega) rfl) ?_))
      all_goals (first | (refine ASL.store rfl rfl (opStoreOwnM (f := edgeA) rfl sizeA_96 rfl rfl (by assumption) (by first | omega | (simp; omega)) (fun _ => ⟨rfl, rfl, rfl⟩) ?_); rintro Gs1 hOs1 hBs1) | (refine ASL.store rfl rfl (opStoreRowM (f := edgeA) rfl sizeA_96 rfl rfl (by assumption) (by first | omega | (simp; omega)) (fun _ => ⟨rfl, rfl, rfl⟩) ?_); rintro Gs1 hOs1 hBs1))
      all_goals (refine ASL.done ?_)
      all_goals (refine AWP.lastR rfl ?_)
      all_goals (refine ASL.light rfl rfl (opMove (v := .int _ _) rfl rfl) ?_)
      all_goals (first | (refine ASL.light rfl rfl (opAdd rfl rfl rfl (by omega)) ?_) | (refine ASL.light rfl rfl (opInt rfl rfl rfl rfl) ?_))
      all_goals (refine ASL.light rfl rfl (opAssign (v := .int _ _) rfl rfl) ?_)
      all_goals (refine ASL.done ?_)
      all_goals (exact ⟨i + 1, by omega, by omega, ⟨rfl, rfl, rfl, trivial⟩, by have h := hOs1; rw [copyG (by omega)] at h; exact h⟩)))
  all_goals (refine AWP.seqR rfl ?_)
  all_goals (first | (refine ASL.light rfl rfl (opMove (v := .list _ _) rfl rfl) ?_) | (refine ASL.light rfl rfl (opMove (v := .slc _ _ _ _) rfl rfl) ?_) | (refine ASL.light rfl rfl (opMove (v := .nil) rfl rfl) ?_))
  all_goals (first | (refine ASL.light rfl rfl (opAssign (v := .list _ _) rfl rfl) ?_) | (refine ASL.light rfl rfl (opAssign (v := .slc _ _ _ _) rfl rfl) ?_) | (refine ASL.light rfl rfl (opAssign (v := .nil) rfl rfl) ?_))
  all_goals (refine ASL.done ?_)
  all_goals (refine AWP.ret ?_)
  all_goals (repeat with_reducible refine QThen.ret1 ?_)
  all_goals (exact QRet.one rfl rfl (by have h := hO0; rw [show i = xs.length by omega, List.take_length, Nat.sub_self, List.replicate_zero, List.append_nil] at h; exact h))

set_option maxRecDepth 10000 in
theorem laws_toAuto (a : AutoD) (hx : a.es.length ≤ 1048576) : PC Try.prog 40 [autoA a] (fun v => v = autoA a) := by
  refine PC.enter Try.func40 rfl Try.ntmps40 (by simp) ?_
  all_goals (refine AWP.seqR rfl ?_)
  all_goals (refine ASL.boxI rfl rfl rfl rfl rfl ?_)
  all_goals (refine ASL.heavy1 rfl rfl (opAllocAt rfl zeroA_35 ?_); rintro b2 G2 hT2 hK2 hN2)
  all_goals (refine ASL.done ?_)
  all_goals (refine AWP.seqR rfl ?_)
  all_goals (refine ASL.heavy1 rfl rfl (opAllocAt rfl zeroA_35 ?_); rintro b3 G3 hT3 hK3 hN3; try (have hD3_2 := At.ne hT2 hN3); try (have hT2 := At.grow hT2 hK3))
  all_goals (refine ASL.done ?_)
  all_goals (refine AWP.seqR rfl ?_)
  all_goals (first | (refine ASL.light rfl rfl (opFieldAddrR rfl fieldA_47_0 rfl rfl) ?_) | (refine ASL.light rfl rfl (opFieldAddr rfl fieldA_47_0 rfl rfl) ?_))
  all_goals (first | (refine ASL.light rfl rfl (opLoadR (v := .int _ _) rfl aggA_3 rfl rfl) ?_) | (refine ASL.light rfl rfl (opLoadOwnI rfl aggA_3 rfl (by assumption) (by first | omega | (simp; omega))) ?_))
  all_goals (first | (refine ASL.light rfl rfl (opFieldAddrR rfl fieldA_35_0 rfl rfl) ?_) | (refine ASL.light rfl rfl (opFieldAddr rfl fieldA_35_0 rfl rfl) ?_))
  all_goals (refine ASL.store rfl rfl (opStoreAt rfl sizeA_3 rfl rfl hT3 rfl (by exact Nat.le_of_ble_eq_true rfl) ?_); rintro Gs1 hT3 hB1; try (have hT2 := At.near hT2 hB1 (by first | assumption | exact Ne.symm (by assumption))))
  all_goals (refine ASL.done ?_)
  all_goals (refine AWP.seqR rfl ?_)
  all_goals (first | (refine ASL.light rfl rfl (opFieldAddrR rfl fieldA_47_1 rfl rfl) ?_) | (refine ASL.light rfl rfl (opFieldAddr rfl fieldA_47_1 rfl rfl) ?_))
  all_goals (first | (refine ASL.light rfl rfl (opLoadR (v := .int _ _) rfl aggA_3 rfl rfl) ?_) | (refine ASL.light rfl rfl (opLoadOwnI rfl aggA_3 rfl (by assumption) (by first | omega | (simp; omega))) ?_))
  all_goals (first | (refine ASL.light rfl rfl (opFieldAddrR rfl fieldA_35_1 rfl rfl) ?_) | (refine ASL.light rfl rfl (opFieldAddr rfl fieldA_35_1 rfl rfl) ?_))
  all_goals (refine ASL.store rfl rfl (opStoreAt rfl sizeA_3 rfl rfl hT3 rfl (by exact Nat.le_of_ble_eq_true rfl) ?_); rintro Gs2 hT3 hB2; try (have hT2 := At.near hT2 hB2 (by first | assumption | exact Ne.symm (by assumption))))
  all_goals (refine ASL.done ?_)
  all_goals (refine AWP.seqR rfl ?_)
  all_goals (first | (refine ASL.light rfl rfl (opFieldAddrR rfl fieldA_47_2 rfl rfl) ?_) | (refine ASL.light rfl rfl (opFieldAddr rfl fieldA_47_2 rfl rfl) ?_))
  all_goals (first | (refine ASL.light rfl rfl (opLoadR (v := .int _ _) rfl aggA_3 rfl rfl) ?_) | (refine ASL.light rfl rfl (opLoadOwnI rfl aggA_3 rfl (by assumption) (by first | omega | (simp; omega))) ?_))
  all_goals (first | (refine ASL.light rfl rfl (opFieldAddrR rfl fieldA_35_2 rfl rfl) ?_) | (refine ASL.light rfl rfl (opFieldAddr rfl fieldA_35_2 rfl rfl) ?_))
  all_goals (refine ASL.store rfl rfl (opStoreAt rfl sizeA_3 rfl rfl hT3 rfl (by exact Nat.le_of_ble_eq_true rfl) ?_); rintro Gs3 hT3 hB3; try (have hT2 := At.near hT2 hB3 (by first | assumption | exact Ne.symm (by assumption))))
  all_goals (refine ASL.done ?_)
  all_goals (refine AWP.seqR rfl ?_)
  all_goals (first | (refine ASL.light rfl rfl (opFieldAddrR rfl fieldA_47_3 rfl rfl) ?_) | (refine ASL.light rfl rfl (opFieldAddr rfl fieldA_47_3 rfl rfl) ?_))
  all_goals (first | (refine ASL.light rfl rfl (opLoadR (v := .list _ _) rfl aggA_45 rfl rfl) ?_) | (refine ASL.light rfl rfl (opLoadR (v := .slc _ _ _ _) rfl aggA_45 rfl rfl) ?_) | (refine ASL.light rfl rfl (opLoadR (v := .nil) rfl aggA_45 rfl rfl) ?_) | (refine ASL.light rfl rfl (opLoadOwnM rfl aggA_45 rfl (by assumption) (by first | omega | (simp; omega)) (fun _ => rfl)) ?_))
  all_goals (refine ASL.callP rfl rfl rfl rfl call_87 (PO.list (laws_toEdgeS _ (by omega))) rfl ?_; rintro _ rfl)
  all_goals (first | (refine ASL.light rfl rfl (opFieldAddrR rfl fieldA_35_3 rfl rfl) ?_) | (refine ASL.light rfl rfl (opFieldAddr rfl fieldA_35_3 rfl rfl) ?_))
  all_goals (refine ASL.store rfl rfl (opStoreAt rfl sizeA_33 rfl rfl hT3 rfl (by exact Nat.le_of_ble_eq_true rfl) ?_); rintro Gs4 hT3 hB4; try (have hT2 := At.near hT2 hB4 (by first | assumption | exact Ne.symm (by assumption))))
  all_goals (refine ASL.done ?_)
  all_goals (refine AWP.seqR rfl ?_)
  all_goals (refine ASL.light rfl rfl (opLoadAtA rfl aggA_35 sizeA_35 rfl hT3 (Nat.le_of_ble_eq_true rfl)) ?_)
  all_goals (refine ASL.store rfl rfl (opStoreAtA rfl sizeA_35 rfl rfl hT2 rfl (by first | rfl | (simp [cells]; done)) (by first | rfl | (simp [cells]; done)) (Nat.le_of_ble_eq_true rfl) ?_); rintro Gs5 hT2 hB5; try (have hT3 := At.near hT3 hB5 (by first | assumption | exact Ne.symm (by assumption))))
  all_goals (refine ASL.done ?_)
  all_goals (refine AWP.ret ?_)
  all_goals (repeat with_reducible refine QThen.ret1 ?_)
  all_goals (refine QRet.cell rfl hT2 rfl aggA_35 sizeA_35 ?_; rfl)

set_option maxRecDepth 10000 in
theorem laws_toNfa (n : NfaD) (hx : n.a.es.length ≤ 1048576) : PC Try.prog 34 [nfaA n] (fun v => v = nfaA n) := by
  refine PC.enter Try.func34 rfl Try.ntmps34 (by simp) ?_
  all_goals (refine AWP.seqR rfl ?_)
  all_goals (refine ASL.boxI rfl rfl rfl rfl rfl ?_)
  all_goals (refine ASL.heavy1 rfl rfl (opAllocAt rfl zeroA_53 ?_); rintro b2 G2 hT2 hK2 hN2)
  all_goals (refine ASL.done ?_)
  all_goals (refine AWP.seqR rfl ?_)
  all_goals (refine ASL.heavy1 rfl rfl (opAllocAt rfl zeroA_53 ?_); rintro b3 G3 hT3 hK3 hN3; try (have hD3_2 := At.ne hT2 hN3); try (have hT2 := At.grow hT2 hK3))
  all_goals (refine ASL.done ?_)
  all_goals (refine AWP.seqR rfl ?_)
  all_goals (first | (refine ASL.light rfl rfl (opFieldAddrR rfl fieldA_49_0 rfl rfl) ?_) | (refine ASL.light rfl rfl (opFieldAddr rfl fieldA_49_0 rfl rfl) ?_))
  all_goals (refine ASL.light rfl rfl (opLoadRA rfl aggA_47 sizeA_47 rfl (by first | exact Nat.le_of_ble_eq_true rfl | (simp; done)) rfl) ?_)
  all_goals (refine ASL.callP rfl rfl rfl rfl call_40 (laws_toAuto _ (by omega)) rfl ?_; rintro _ rfl)
  all_goals (first | (refine ASL.light rfl rfl (opFieldAddrR rfl fieldA_53_0 rfl rfl) ?_) | (refine ASL.light rfl rfl (opFieldAddr rfl fieldA_53_0 rfl rfl) ?_))
  all_goals (refine ASL.store rfl rfl (opStoreAtA rfl sizeA_35 rfl rfl hT3 rfl (by first | rfl | (simp [cells]; done)) (by first | rfl | (simp [cells]; done)) (Nat.le_of_ble_eq_true rfl) ?_); rintro Gs1 hT3 hB1; try (have hT2 := At.near hT2 hB1 (by first | assumption | exact Ne.symm (by assumption))))
  all_goals (refine ASL.done ?_)
  all_goals (refine AWP.seqR rfl ?_)
  all_goals (first | (refine ASL.light rfl rfl (opFieldAddrR rfl fieldA_49_1 rfl rfl) ?_) | (refine ASL.light rfl rfl (opFieldAddr rfl fieldA_49_1 rfl rfl) ?_))
  all_goals (first | (refine ASL.light rfl rfl (opLoadR (v := .int _ _) rfl aggA_3 rfl rfl) ?_) | (refine ASL.light rfl rfl (opLoadOwnI rfl aggA_3 rfl (by assumption) (by first | omega | (simp; omega))) ?_))
  all_goals (first | (refine ASL.light rfl rfl (opFieldAddrR rfl fieldA_53_1 rfl rfl) ?_) | (refine ASL.light rfl rfl (opFieldAddr rfl fieldA_53_1 rfl rfl) ?_))
  all_goals (refine ASL.store rfl rfl (opStoreAt rfl sizeA_3 rfl rfl hT3 rfl (by exact Nat.le_of_ble_eq_true rfl) ?_); rintro Gs2 hT3 hB2; try (have hT2 := At.near hT2 hB2 (by first | assumption | exact Ne.symm (by assumption))))
  all_goals (refine ASL.done ?_)
  all_goals (refine AWP.seqR rfl ?_)
  all_goals (refine ASL.light rfl rfl (opLoadAtA rfl aggA_53 sizeA_53 rfl hT3 (Nat.le_of_ble_eq_true rfl)) ?_)
  all_goals (refine ASL.store rfl rfl (opStoreAtA rfl sizeA_53 rfl rfl hT2 rfl (by first | rfl | (simp [cells]; done)) (by first | rfl | (simp [cells]; done)) (Nat.le_of_ble_eq_true rfl) ?_); rintro Gs3 hT2 hB3; try (have hT3 := At.near hT3 hB3 (by first | assumption | exact Ne.symm (by assumption))))
  all_goals (refine ASL.done ?_)
  all_goals (refine AWP.ret ?_)
  all_goals (repeat with_reducible refine QThen.ret1 ?_)
  all_goals (refine QRet.cell rfl hT2 rfl aggA_53 sizeA_53 ?_; rfl)

set_option maxRecDepth 10000 in
theorem laws_szEdgeS (xs : List EdgeD) (k : Int) (hx : xs.length ≤ 9223372036854775807) (hk : 0 ≤ k ∧ k ≤ 1048576) : PC Try.prog 83 [.list 4 (xs.map edgeA), .int .i64 k] (fun v => v = .int .i64 (if k < xs.length then -1 else k - xs.length)) := by
  refine PC.enter Try.func83 rfl Try.ntmps83 (by simp) ?_
  all_goals (refine AWP.seqR rfl ?_)
  all_goals (refine ASL.light rfl rfl (opAssign (v := .int _ _) rfl rfl) ?_)
  all_goals (refine ASL.done ?_)
  all_goals (refine AWP.seqR rfl ?_)
  all_goals (refine ASL.light rfl rfl (opMove (v := .int _ _) rfl rfl) ?_)
  all_goals (first | (refine ASL.light rfl rfl (opMove (v := .list _ _) rfl rfl) ?_) | (refine ASL.light rfl rfl (opMove (v := .slc _ _ _ _) rfl rfl) ?_) | (refine ASL.light rfl rfl (opMove (v := .nil) rfl rfl) ?_))
  all_goals (first | (refine ASL.light rfl rfl (opLenMap rfl rfl rfl lenT_45 rfl) ?_) | (refine ASL.light rfl rfl (opLenOf rfl rfl rfl lenT_45 rfl rfl) ?_))
  all_goals (first | (refine ASL.light rfl rfl (opSub rfl rfl rfl (by omega)) ?_) | (refine ASL.light rfl rfl (opInt rfl rfl rfl rfl) ?_))
  all_goals (refine ASL.light rfl rfl (opAssign (v := .int _ _) rfl rfl) ?_)
  all_goals (refine ASL.done ?_)
  all_goals (refine AWP.seq ?_)
  all_goals (refine AWP.seqR rfl ?_)
  all_goals (refine ASL.light rfl rfl (opMove (v := .int _ _) rfl rfl) ?_)
  all_goals (refine ASL.dec rfl rfl (opInt rfl rfl rfl rfl) ?_ ?_ <;> intro h10)
  all_goals (refine ASL.done ?_)
  all_goals (first
    | (
      refine AWP.condT rfl ?_
      all_goals (refine AWP.seqR rfl ?_)
      all_goals (refine ASL.light rfl rfl (opAssign (v := .int _ _) rfl rfl) ?_)
      all_goals (refine ASL.done ?_)
      all_goals (refine AWP.ret ?_)
      all_goals (repeat with_reducible refine QThen.ret1 ?_)
      all_goals (first | exact QRet.int rfl rfl rfl (by rw [if_neg (by omega)]) | exact QRet.int rfl rfl rfl (by rw [if_pos (by omega)]) | exact QRet.int rfl rfl rfl (by split <;> omega)))
    | (
      refine AWP.condF rfl ?_
      all_goals (refine AWP.skip ?_)
      all_goals (refine AWP.seqR rfl ?_)
      all_goals (refine ASL.light rfl rfl (opMove (v := .int _ _) rfl rfl) ?_)
      all_goals (refine ASL.light rfl rfl (opAssign (v := .int _ _) rfl rfl) ?_)
      all_goals (refine ASL.done ?_)
      all_goals (refine AWP.ret ?_)
      all_goals (repeat with_reducible refine QThen.ret1 ?_)
      all_goals (first | exact QRet.int rfl rfl rfl (by rw [if_neg (by omega)]) | exact QRet.int rfl rfl rfl (by rw [if_pos (by omega)]) | exact QRet.int rfl rfl rfl (by split <;> omega))))

set_option maxRecDepth 10000 in
theorem laws_szAuto (a : AutoD) (k : Int) (hx : a.es.length ≤ 9223372036854775807) (hk : 0 ≤ k ∧ k ≤ 1048576) : PC Try.prog 37 [autoA a, .int .i64 k] (fun v => v = .int .i64 (if k < a.es.length then -1 else k - a.es.length)) := by
  refine PC.enter Try.func37 rfl Try.ntmps37 (by simp) ?_
  all_goals (refine AWP.seqR rfl ?_)
  all_goals (refine ASL.boxI rfl rfl rfl rfl rfl ?_)
  all_goals (refine ASL.light rfl rfl (opAssign (v := .int _ _) rfl rfl) ?_)
  all_goals (refine ASL.done ?_)
  all_goals (refine AWP.seqR rfl ?_)
  all_goals (first | (refine ASL.light rfl rfl (opFieldAddrR rfl fieldA_47_3 rfl rfl) ?_) | (refine ASL.light rfl rfl (opFieldAddr rfl fieldA_47_3 rfl rfl) ?_))
  all_goals (first | (refine ASL.light rfl rfl (opLoadR (v := .list _ _) rfl aggA_45 rfl rfl) ?_) | (refine ASL.light rfl rfl (opLoadR (v := .slc _ _ _ _) rfl aggA_45 rfl rfl) ?_) | (refine ASL.light rfl rfl (opLoadR (v := .nil) rfl aggA_45 rfl rfl) ?_) | (refine ASL.light rfl rfl (opLoadOwnM rfl aggA_45 rfl (by assumption) (by first | omega | (simp; omega)) (fun _ => rfl)) ?_))
  all_goals (refine ASL.light rfl rfl (opMove (v := .int _ _) rfl rfl) ?_)
  all_goals (refine ASL.callP rfl rfl rfl rfl call_83 (laws_szEdgeS _ _ (by omega) (by omega)) rfl ?_; rintro _ rfl)
  all_goals (refine ASL.light rfl rfl (opAssign (v := .int _ _) rfl rfl) ?_)
  all_goals (refine ASL.done ?_)
  all_goals (refine AWP.seq ?_)
  all_goals (refine AWP.seqR rfl ?_)
  all_goals (refine ASL.light rfl rfl (opMove (v := .int _ _) rfl rfl) ?_)
  all_goals (refine ASL.dec rfl rfl (opInt rfl rfl rfl rfl) ?_ ?_ <;> intro h10)
  all_goals (refine ASL.done ?_)
  all_goals (first
    | (
      refine AWP.condT rfl ?_
      all_goals (refine AWP.seqR rfl ?_)
      all_goals (refine ASL.light rfl rfl (opAssign (v := .int _ _) rfl rfl) ?_)
      all_goals (refine ASL.done ?_)
      all_goals (refine AWP.ret ?_)
      all_goals (repeat with_reducible refine QThen.ret1 ?_)
      all_goals (first | exact QRet.int rfl rfl rfl (by rw [if_neg (by omega)]) | exact QRet.int rfl rfl rfl (by rw [if_pos (by omega)]) | exact QRet.int rfl rfl rfl (by split <;> omega)))
    | (
      refine AWP.condF rfl ?_
      all_goals (refine AWP.skip ?_)
      all_goals (refine AWP.seqR rfl ?_)
      all_goals (refine ASL.light rfl rfl (opMove (v := .int _ _) rfl rfl) ?_)
      all_goals (refine ASL.light rfl rfl (opAssign (v := .int _ _) rfl rfl) ?_)
      all_goals (refine ASL.done ?_)
      all_goals (refine AWP.ret ?_)
      all_goals (repeat with_reducible refine QThen.ret1 ?_)
      all_goals (first | exact QRet.int rfl rfl rfl (by rw [if_neg (by omega)]) | exact QRet.int rfl rfl rfl (by rw [if_pos (by omega)]) | exact QRet.int rfl rfl rfl (by split <;> omega))))

set_option maxRecDepth 10000 in
theorem laws_szNfa (n : NfaD) (k : Int) (hx : n.a.es.length ≤ 9223372036854775807) (hk : 0 ≤ k ∧ k ≤ 1048576) : PC Try.prog 32 [nfaA n, .int .i64 k] (fun v => v = .int .i64 (if k < n.a.es.length then -1 else k - n.a.es.length)) := by
  refine PC.enter Try.func32 rfl Try.ntmps32 (by simp) ?_
  all_goals (refine AWP.seqR rfl ?_)
  all_goals (refine ASL.boxI rfl rfl rfl rfl rfl ?_)
  all_goals (refine ASL.light rfl rfl (opAssign (v := .int _ _) rfl rfl) ?_)
  all_goals (refine ASL.done ?_)
  all_goals (refine AWP.seqR rfl ?_)
  all_goals (first | (refine ASL.light rfl rfl (opFieldAddrR rfl fieldA_49_0 rfl rfl) ?_) | (refine ASL.light rfl rfl (opFieldAddr rfl fieldA_49_0 rfl rfl) ?_))
  all_goals (refine ASL.light rfl rfl (opLoadRA rfl aggA_47 sizeA_47 rfl (by first | exact Nat.le_of_ble_eq_true rfl | (simp; done)) rfl) ?_)
  all_goals (refine ASL.light rfl rfl (opMove (v := .int _ _) rfl rfl) ?_)
  all_goals (refine ASL.callP rfl rfl rfl rfl call_37 (laws_szAuto _ _ (by omega) (by omega)) rfl ?_; rintro _ rfl)
  all_goals (refine ASL.light rfl rfl (opAssign (v := .int _ _) rfl rfl) ?_)
  all_goals (refine ASL.done ?_)
  all_goals (refine AWP.seq ?_)
  all_goals (refine AWP.seqR rfl ?_)
  all_goals (refine ASL.light rfl rfl (opMove (v := .int _ _) rfl rfl) ?_)
  all_goals (refine ASL.dec rfl rfl (opInt rfl rfl rfl rfl) ?_ ?_ <;> intro h10)
  all_goals (refine ASL.done ?_)
  all_goals (first
    | (
      refine AWP.condT rfl ?_
      all_goals (refine AWP.seqR rfl ?_)
      all_goals (refine ASL.light rfl rfl (opAssign (v := .int _ _) rfl rfl) ?_)
      all_goals (refine ASL.done ?_)
      all_goals (refine AWP.ret ?_)
      all_goals (repeat with_reducible refine QThen.ret1 ?_)
      all_goals (first | exact QRet.int rfl rfl rfl (by rw [if_neg (by omega)]) | exact QRet.int rfl rfl rfl (by rw [if_pos (by omega)]) | exact QRet.int rfl rfl rfl (by split <;> omega)))
    | (
      refine AWP.condF rfl ?_
      all_goals (refine AWP.skip ?_)
      all_goals (refine AWP.seqR rfl ?_)
      all_goals (refine ASL.light rfl rfl (opMove (v := .int _ _) rfl rfl) ?_)
      all_goals (refine ASL.light rfl rfl (opAssign (v := .int _ _) rfl rfl) ?_)
      all_goals (refine ASL.done ?_)
      all_goals (refine AWP.ret ?_)
      all_goals (repeat with_reducible refine QThen.ret1 ?_)
      all_goals (first | exact QRet.int rfl rfl rfl (by rw [if_neg (by omega)]) | exact QRet.int rfl rfl rfl (by rw [if_pos (by omega)]) | exact QRet.int rfl rfl rfl (by split <;> omega))))

set_option maxRecDepth 10000 in
theorem laws_eqEdge (e f : EdgeD) : PC Try.prog 122 [edgeA e, edgeA f] (fun v => v = .bool (decide (e = f))) := by
  refine PC.enter Try.func122 rfl Try.ntmps122 (by simp) ?_
  all_goals (refine AWP.seqR rfl ?_)
  all_goals (refine ASL.boxI rfl rfl rfl rfl rfl ?_)
  all_goals (refine ASL.boxI rfl rfl rfl rfl rfl ?_)
  all_goals (refine ASL.light rfl rfl (opAssign (v := .bool _) rfl rfl) ?_)
  all_goals (refine ASL.done ?_)
  all_goals (refine AWP.seq ?_)
  all_goals (refine AWP.seqR rfl ?_)
  all_goals (first | (refine ASL.light rfl rfl (opFieldAddrR rfl fieldA_96_0 rfl rfl) ?_) | (refine ASL.light rfl rfl (opFieldAddr rfl fieldA_96_0 rfl rfl) ?_))
  all_goals (first | (refine ASL.light rfl rfl (opLoadR (v := .int _ _) rfl aggA_3 rfl rfl) ?_) | (refine ASL.light rfl rfl (opLoadOwnI rfl aggA_3 rfl (by assumption) (by first | omega | (simp; omega))) ?_))
  all_goals (first | (refine ASL.light rfl rfl (opFieldAddrR rfl fieldA_96_0 rfl rfl) ?_) | (refine ASL.light rfl rfl (opFieldAddr rfl fieldA_96_0 rfl rfl) ?_))
  all_goals (first | (refine ASL.light rfl rfl (opLoadR (v := .int _ _) rfl aggA_3 rfl rfl) ?_) | (refine ASL.light rfl rfl (opLoadOwnI rfl aggA_3 rfl (by assumption) (by first | omega | (simp; omega))) ?_))
  all_goals (refine ASL.dec rfl rfl (opInt rfl rfl rfl rfl) ?_ ?_ <;> intro h9)
  all_goals (refine ASL.done ?_)
  all_goals (first
    | (
      refine AWP.condT rfl ?_
      all_goals (refine AWP.seqR rfl ?_)
      all_goals (refine ASL.light rfl rfl (opAssign (v := .bool _) rfl rfl) ?_)
      all_goals (refine ASL.done ?_)
      all_goals (refine AWP.ret ?_)
      all_goals (repeat with_reducible refine QThen.ret1 ?_)
      all_goals (exact QRet.bool rfl rfl rfl (by symm; first | (apply decide_eq_false; rintro rfl; first | contradiction | omega | (simp_all; done)) | (apply decide_eq_true; cases e; cases f; simp_all))))
    | (
      refine AWP.condF rfl ?_
      all_goals (refine AWP.skip ?_)
      all_goals (refine AWP.seq ?_)
      all_goals (refine AWP.seqR rfl ?_)
      all_goals (first | (refine ASL.light rfl rfl (opFieldAddrR rfl fieldA_96_1 rfl rfl) ?_) | (refine ASL.light rfl rfl (opFieldAddr rfl fieldA_96_1 rfl rfl) ?_))
      all_goals (first | (refine ASL.light rfl rfl (opLoadR (v := .int _ _) rfl aggA_3 rfl rfl) ?_) | (refine ASL.light rfl rfl (opLoadOwnI rfl aggA_3 rfl (by assumption) (by first | omega | (simp; omega))) ?_))
      all_goals (first | (refine ASL.light rfl rfl (opFieldAddrR rfl fieldA_96_1 rfl rfl) ?_) | (refine ASL.light rfl rfl (opFieldAddr rfl fieldA_96_1 rfl rfl) ?_))
      all_goals (first | (refine ASL.light rfl rfl (opLoadR (v := .int _ _) rfl aggA_3 rfl rfl) ?_) | (refine ASL.light rfl rfl (opLoadOwnI rfl aggA_3 rfl (by assumption) (by first | omega | (simp; omega))) ?_))
      all_goals (refine ASL.dec rfl rfl (opInt rfl rfl rfl rfl) ?_ ?_ <;> intro h14)
      all_goals (refine ASL.done ?_)
      all_goals (first
        | (
          refine AWP.condT rfl ?_
          all_goals (refine AWP.seqR rfl ?_)
          all_goals (refine ASL.light rfl rfl (opAssign (v := .bool _) rfl rfl) ?_)
          all_goals (refine ASL.done ?_)
          all_goals (refine AWP.ret ?_)
          all_goals (repeat with_reducible refine QThen.ret1 ?_)
          all_goals (exact QRet.bool rfl rfl rfl (by symm; first | (apply decide_eq_false; rintro rfl; first | contradiction | omega | (simp_all; done)) | (apply decide_eq_true; cases e; cases f; simp_all))))
        | (
          refine AWP.condF rfl ?_
          all_goals (refine AWP.skip ?_)
          all_goals (refine AWP.seq ?_)
          all_goals (refine AWP.seqR rfl ?_)
          all_goals (first | (refine ASL.light rfl rfl (opFieldAddrR rfl fieldA_96_2 rfl rfl) ?_) | (refine ASL.light rfl rfl (opFieldAddr rfl fieldA_96_2 rfl rfl) ?_))
          all_goals (first | (refine ASL.light rfl rfl (opLoadR (v := .int _ _) rfl aggA_3 rfl rfl) ?_) | (refine ASL.light rfl rfl (opLoadOwnI rfl aggA_3 rfl (by assumption) (by first | omega | (simp; omega))) ?_))
          all_goals (first | (refine ASL.light rfl rfl (opFieldAddrR rfl fieldA_96_2 rfl rfl) ?_) | (refine ASL.light rfl rfl (opFieldAddr rfl fieldA_96_2 rfl rfl) ?_))
          all_goals (first | (refine ASL.light rfl rfl (opLoadR (v := .int _ _) rfl aggA_3 rfl rfl) ?_) | (refine ASL.light rfl rfl (opLoadOwnI rfl aggA_3 rfl (by assumption) (by first | omega | (simp; omega))) ?_))
          all_goals (refine ASL.dec rfl rfl (opInt rfl rfl rfl rfl) ?_ ?_ <;> intro h19)
          all_goals (refine ASL.done ?_)
          all_goals (first
            | (
              refine AWP.condT rfl ?_
              all_goals (refine AWP.seqR rfl ?_)
              all_goals (refine ASL.light rfl rfl (opAssign (v := .bool _) rfl rfl) ?_)
              all_goals (refine ASL.done ?_)
              all_goals (refine AWP.ret ?_)
              all_goals (repeat with_reducible refine QThen.ret1 ?_)
              all_goals (exact QRet.bool rfl rfl rfl (by symm; first | (apply decide_eq_false; rintro rfl; first | contradiction | omega | (simp_all; done)) | (apply decide_eq_true; cases e; cases f; simp_all))))
            | (
              refine AWP.condF rfl ?_
              all_goals (refine AWP.skip ?_)
              all_goals (refine AWP.seq ?_)
              all_goals (refine AWP.seqR rfl ?_)
              all_goals (first | (refine ASL.light rfl rfl (opFieldAddrR rfl fieldA_96_3 rfl rfl) ?_) | (refine ASL.light rfl rfl (opFieldAddr rfl fieldA_96_3 rfl rfl) ?_))
              all_goals (first | (refine ASL.light rfl rfl (opLoadR (v := .bool _) rfl aggA_4 rfl rfl) ?_) | (refine ASL.light rfl rfl (opLoadOwnM rfl aggA_4 rfl (by assumption) (by first | omega | (simp; omega)) (fun _ => rfl)) ?_))
              all_goals (first | (refine ASL.light rfl rfl (opFieldAddrR rfl fieldA_96_3 rfl rfl) ?_) | (refine ASL.light rfl rfl (opFieldAddr rfl fieldA_96_3 rfl rfl) ?_))
              all_goals (first | (refine ASL.light rfl rfl (opLoadR (v := .bool _) rfl aggA_4 rfl rfl) ?_) | (refine ASL.light rfl rfl (opLoadOwnM rfl aggA_4 rfl (by assumption) (by first | omega | (simp; omega)) (fun _ => rfl)) ?_))
              all_goals (refine ASL.bool rfl rfl (opBoolEq rfl rfl rfl und_4 rfl) ?_ ?_ <;> intro h24)
              all_goals (refine ASL.done ?_)
              all_goals (first
                | (
                  refine AWP.condT rfl ?_
                  all_goals (refine AWP.seqR rfl ?_)
                  all_goals (refine ASL.light rfl rfl (opAssign (v := .bool _) rfl rfl) ?_)
                  all_goals (refine ASL.done ?_)
                  all_goals (refine AWP.ret ?_)
                  all_goals (repeat with_reducible refine QThen.ret1 ?_)
                  all_goals (exact QRet.bool rfl rfl rfl (by symm; first | (apply decide_eq_false; rintro rfl; first | contradiction | omega | (simp_all; done)) | (apply decide_eq_true; cases e; cases f; simp_all))))
                | (
                  refine AWP.condF rfl ?_
                  all_goals (refine AWP.skip ?_)
                  all_goals (refine AWP.seqR rfl ?_)
                  all_goals (refine ASL.light rfl rfl (opAssign (v := .bool _) rfl rfl) ?_)
                  all_goals (refine ASL.done ?_)
                  all_goals (refine AWP.ret ?_)
                  all_goals (repeat with_reducible refine QThen.ret1 ?_)
                  all_goals (exact QRet.bool rfl rfl rfl (by symm; first | (apply decide_eq_false; rintro rfl; first | contradiction | omega | (simp_all; done)) | (apply decide_eq_true; cases e; cases f; simp_all)))))))))))

set_option maxRecDepth 10000 in
theorem laws_eqEdgeS (xs ys : List EdgeD) (hx : xs.length ≤ 1048576) : PC Try.prog 90 [.list 4 (xs.map edgeA), .list 4 (ys.map edgeA)] (fun v => v = .bool (decide (xs = ys))) := by
  refine PC.enter Try.func90 rfl Try.ntmps90 (by simp) ?_
  all_goals (refine AWP.seqR rfl ?_)
  all_goals (refine ASL.light rfl rfl (opAssign (v := .bool _) rfl rfl) ?_)
  all_goals (refine ASL.done ?_)
  all_goals (refine AWP.seq ?_)
  all_goals (refine AWP.seqR rfl ?_)
  all_goals (first | (refine ASL.light rfl rfl (opMove (v := .list _ _) rfl rfl) ?_) | (refine ASL.light rfl rfl (opMove (v := .slc _ _ _ _) rfl rfl) ?_) | (refine ASL.light rfl rfl (opMove (v := .nil) rfl rfl) ?_))
  all_goals (first | (refine ASL.light rfl rfl (opLenMap rfl rfl rfl lenT_33 rfl) ?_) | (refine ASL.light rfl rfl (opLenOf rfl rfl rfl lenT_33 rfl rfl) ?_))
  all_goals (first | (refine ASL.light rfl rfl (opMove (v := .list _ _) rfl rfl) ?_) | (refine ASL.light rfl rfl (opMove (v := .slc _ _ _ _) rfl rfl) ?_) | (refine ASL.light rfl rfl (opMove (v := .nil) rfl rfl) ?_))
  all_goals (first | (refine ASL.light rfl rfl (opLenMap rfl rfl rfl lenT_33 rfl) ?_) | (refine ASL.light rfl rfl (opLenOf rfl rfl rfl lenT_33 rfl rfl) ?_))
  all_goals (refine ASL.dec rfl rfl (opInt rfl rfl rfl rfl) ?_ ?_ <;> intro h10)
  all_goals (refine ASL.done ?_)
  all_goals (first
    | (
      refine AWP.condT rfl ?_
      all_goals (refine AWP.seqR rfl ?_)
      all_goals (refine ASL.light rfl rfl (opAssign (v := .bool _) rfl rfl) ?_)
      all_goals (refine ASL.done ?_)
      all_goals (refine AWP.ret ?_)
      all_goals (repeat with_reducible refine QThen.ret1 ?_)
      all_goals (exact QRet.bool rfl rfl rfl (by first | exact eqG_len (by omega) | exact eqG_at (i := i) (by assumption) | exact eqG_all (i := i) (by omega) (by omega) hI0.2)))
    | (
      refine AWP.condF rfl ?_
      all_goals (refine AWP.skip ?_)
      all_goals (refine AWP.seq ?_)
      all_goals (refine AWP.seqR rfl ?_)
      all_goals (refine ASL.light rfl rfl (opAssign (v := .int _ _) rfl rfl) ?_)
      all_goals (refine ASL.done ?_)
      all_goals (refine AWP.block ?_)
      all_goals (refine AWP.loopL (α := Nat) (fun i => [(0, .list 4 (xs.map edgeA)), (1, .list 4 (ys.map edgeA)), (5, .int .i64 i)]) (fun i G => G = fun _ => none) (fun i => xs.length - i) (fun i => i ≤ xs.length ∧ eqUp xs ys i) 0 ⟨by omega, eqUp0 _ _⟩ ⟨rfl, rfl, rfl, trivial⟩ rfl ?_)
      rintro i G0 hI0 rfl
      all_goals (refine AWP.seq ?_)
      all_goals (refine AWP.seqR rfl ?_)
      all_goals (refine ASL.light rfl rfl (opMove (v := .int _ _) rfl rfl) ?_)
      all_goals (first | (refine ASL.light rfl rfl (opMove (v := .list _ _) rfl rfl) ?_) | (refine ASL.light rfl rfl (opMove (v := .slc _ _ _ _) rfl rfl) ?_) | (refine ASL.light rfl rfl (opMove (v := .nil) rfl rfl) ?_))
      all_goals (first | (refine ASL.light rfl rfl (opLenMap rfl rfl rfl lenT_33 rfl) ?_) | (refine ASL.light rfl rfl (opLenOf rfl rfl rfl lenT_33 rfl rfl) ?_))
      all_goals (refine ASL.dec rfl rfl (opInt rfl rfl rfl rfl) ?_ ?_ <;> intro h14)
      all_goals (refine ASL.done ?_)
      all_goals (first
        | (
          refine AWP.condF rfl ?_
          all_goals (refine AWP.exit ?_))
        | (
          refine AWP.condT rfl ?_
          all_goals (refine AWP.skip ?_)
          all_goals (refine AWP.seq ?_)
          all_goals (refine AWP.block ?_)
          all_goals (refine AWP.seqD [(0, false), (1, false), (2, false), (3, false), (4, false), (5, false), (6, false), (7, false), (8, false), (9, false)] mixed (by kernel_rfl) rfl ?_)
          all_goals (first | (refine ARL.light0 rfl rfl rfl (opMove (v := .list _ _) rfl rfl) ?_) | (refine ARL.light0 rfl rfl rfl (opMove (v := .slc _ _ _ _) rfl rfl) ?_) | (refine ARL.light0 rfl rfl rfl (opMove (v := .nil) rfl rfl) ?_))
          all_goals (refine ARL.light0 rfl rfl rfl (opMove (v := .int _ _) rfl rfl) ?_)
          all_goals (first | (refine ARL.light0 rfl rfl rfl (opIndexN rfl rfl rfl elemA_33 sizeA_96 (by omega) rfl) ?_) | (refine ARL.light0 rfl rfl rfl (opIndexMap rfl rfl rfl elemA_33 sizeA_96 (by omega) (by omega) rfl) ?_) | (refine ARL.light0 rfl rfl rfl (opIndexAddrN rfl rfl rfl elemA_33 sizeA_96 (by omega)) ?_) | (refine ARL.light0 rfl rfl rfl (opIndexAddr rfl rfl rfl elemA_33 sizeA_96 (by omega) (by omega) rfl) ?_))
          all_goals (refine ARL.light0 rfl rfl rfl (opLoadRA rfl aggA_96 sizeA_96 rfl (by first | exact Nat.le_of_ble_eq_true rfl | (simp; done)) rfl) ?_)
          all_goals (first | (refine ARL.light0 rfl rfl rfl (opMove (v := .list _ _) rfl rfl) ?_) | (refine ARL.light0 rfl rfl rfl (opMove (v := .slc _ _ _ _) rfl rfl) ?_) | (refine ARL.light0 rfl rfl rfl (opMove (v := .nil) rfl rfl) ?_))
          all_goals (refine ARL.light0 rfl rfl rfl (opMove (v := .int _ _) rfl rfl) ?_)
          all_goals (first | (refine ARL.light0 rfl rfl rfl (opIndexN rfl rfl rfl elemA_33 sizeA_96 (by omega) rfl) ?_) | (refine ARL.light0 rfl rfl rfl (opIndexMap rfl rfl rfl elemA_33 sizeA_96 (by omega) (by omega) rfl) ?_) | (refine ARL.light0 rfl rfl rfl (opIndexAddrN rfl rfl rfl elemA_33 sizeA_96 (by omega)) ?_) | (refine ARL.light0 rfl rfl rfl (opIndexAddr rfl rfl rfl elemA_33 sizeA_96 (by omega) (by omega) rfl) ?_))
          all_goals (refine ARL.light0 rfl rfl rfl (opLoadRA rfl aggA_96 sizeA_96 rfl (by first | exact Nat.le_of_ble_eq_true rfl | (simp; done)) rfl) ?_)
          all_goals (refine ARL.callD rfl rfl rfl rfl call_122 (laws_eqEdge _ _) rfl ?_ ?_ <;> intro h25)
          all_goals (refine ARL.light0 rfl rfl rfl (opNot rfl rfl) ?_)
          all_goals (refine ARL.done ?_)
          all_goals (first
            | (
              refine AWP.condT rfl ?_
              all_goals (refine AWP.seqR rfl ?_)
              all_goals (refine ASL.light rfl rfl (opAssign (v := .bool _) rfl rfl) ?_)
              all_goals (refine ASL.done ?_)
              all_goals (refine AWP.ret ?_)
              all_goals (repeat with_reducible refine QThen.ret1 ?_)
              all_goals (exact QRet.bool rfl rfl rfl (by first | exact eqG_len (by omega) | exact eqG_at (i := i) (by assumption) | exact eqG_all (i := i) (by omega) (by omega) hI0.2)))
            | (
              refine AWP.condF rfl ?_
              all_goals (refine AWP.skip ?_)))
          all_goals (refine AWP.lastR rfl ?_)
          all_goals (refine ASL.light rfl rfl (opMove (v := .int _ _) rfl rfl) ?_)
          all_goals (first | (refine ASL.light rfl rfl (opAdd rfl rfl rfl (by omega)) ?_) | (refine ASL.light rfl rfl (opInt rfl rfl rfl rfl) ?_))
          all_goals (refine ASL.light rfl rfl (opAssign (v := .int _ _) rfl rfl) ?_)
          all_goals (refine ASL.done ?_)
          all_goals (exact ⟨i + 1, ⟨by omega, eqUp1 hI0.2 (by assumption)⟩, by omega, ⟨rfl, rfl, rfl, trivial⟩, rfl⟩)))
      all_goals (refine AWP.seqR rfl ?_)
      all_goals (refine ASL.light rfl rfl (opAssign (v := .bool _) rfl rfl) ?_)
      all_goals (refine ASL.done ?_)
      all_goals (refine AWP.ret ?_)
      all_goals (repeat with_reducible refine QThen.ret1 ?_)
      all_goals (exact QRet.bool rfl rfl rfl (by first | exact eqG_len (by omega) | exact eqG_at (i := i) (by assumption) | exact eqG_all (i := i) (by omega) (by omega) hI0.2))))

set_option maxRecDepth 10000 in
theorem laws_eqAuto (a c : AutoD) (hx : a.es.length ≤ 1048576) : PC Try.prog 43 [autoA a, autoA c] (fun v => v = .bool (decide (a = c))) := by
  refine PC.enter Try.func43 rfl Try.ntmps43 (by simp) ?_
  all_goals (refine AWP.seqR rfl ?_)
  all_goals (refine ASL.boxI rfl rfl rfl rfl rfl ?_)
  all_goals (refine ASL.boxI rfl rfl rfl rfl rfl ?_)
  all_goals (refine ASL.light rfl rfl (opAssign (v := .bool _) rfl rfl) ?_)
  all_goals (refine ASL.done ?_)
  all_goals (refine AWP.seq ?_)
  all_goals (refine AWP.seqR rfl ?_)
  all_goals (first | (refine ASL.light rfl rfl (opFieldAddrR rfl fieldA_35_0 rfl rfl) ?_) | (refine ASL.light rfl rfl (opFieldAddr rfl fieldA_35_0 rfl rfl) ?_))
  all_goals (first | (refine ASL.light rfl rfl (opLoadR (v := .int _ _) rfl aggA_3 rfl rfl) ?_) | (refine ASL.light rfl rfl (opLoadOwnI rfl aggA_3 rfl (by assumption) (by first | omega | (simp; omega))) ?_))
  all_goals (first | (refine ASL.light rfl rfl (opFieldAddrR rfl fieldA_35_0 rfl rfl) ?_) | (refine ASL.light rfl rfl (opFieldAddr rfl fieldA_35_0 rfl rfl) ?_))
  all_goals (first | (refine ASL.light rfl rfl (opLoadR (v := .int _ _) rfl aggA_3 rfl rfl) ?_) | (refine ASL.light rfl rfl (opLoadOwnI rfl aggA_3 rfl (by assumption) (by first | omega | (simp; omega))) ?_))
  all_goals (refine ASL.dec rfl rfl (opInt rfl rfl rfl rfl) ?_ ?_ <;> intro h9)
  all_goals (refine ASL.done ?_)
  all_goals (first
    | (
      refine AWP.condT rfl ?_
      all_goals (refine AWP.seqR rfl ?_)
      all_goals (refine ASL.light rfl rfl (opAssign (v := .bool _) rfl rfl) ?_)
      all_goals (refine ASL.done ?_)
      all_goals (refine AWP.ret ?_)
      all_goals (repeat with_reducible refine QThen.ret1 ?_)
      all_goals (exact QRet.bool rfl rfl rfl (by symm; first | (apply decide_eq_false; rintro rfl; first | contradiction | omega | (simp_all; done)) | (apply decide_eq_true; cases a; cases c; simp_all))))
    | (
      refine AWP.condF rfl ?_
      all_goals (refine AWP.skip ?_)
      all_goals (refine AWP.seq ?_)
      all_goals (refine AWP.seqR rfl ?_)
      all_goals (first | (refine ASL.light rfl rfl (opFieldAddrR rfl fieldA_35_1 rfl rfl) ?_) | (refine ASL.light rfl rfl (opFieldAddr rfl fieldA_35_1 rfl rfl) ?_))
      all_goals (first | (refine ASL.light rfl rfl (opLoadR (v := .int _ _) rfl aggA_3 rfl rfl) ?_) | (refine ASL.light rfl rfl (opLoadOwnI rfl aggA_3 rfl (by assumption) (by first | omega | (simp; omega))) ?_))
      all_goals (first | (refine ASL.light rfl rfl (opFieldAddrR rfl fieldA_35_1 rfl rfl) ?_) | (refine ASL.light rfl rfl (opFieldAddr rfl fieldA_35_1 rfl rfl) ?_))
      all_goals (first | (refine ASL.light rfl rfl (opLoadR (v := .int _ _) rfl aggA_3 rfl rfl) ?_) | (refine ASL.light rfl rfl (opLoadOwnI rfl aggA_3 rfl (by assumption) (by first | omega | (simp; omega))) ?_))
      all_goals (refine ASL.dec rfl rfl (opInt rfl rfl rfl rfl) ?_ ?_ <;> intro h14)
      all_goals (refine ASL.done ?_)
      all_goals (first
        | (
          refine AWP.condT rfl ?_
          all_goals (refine AWP.seqR rfl ?_)
          all_goals (refine ASL.light rfl rfl (opAssign (v := .bool _) rfl rfl) ?_)
          all_goals (refine ASL.done ?_)
          all_goals (refine AWP.ret ?_)
          all_goals (repeat with_reducible refine QThen.ret1 ?_)
          all_goals (exact QRet.bool rfl rfl rfl (by symm; first | (apply decide_eq_false; rintro rfl; first | contradiction | omega | (simp_all; done)) | (apply decide_eq_true; cases a; cases c; simp_all))))
        | (
          refine AWP.condF rfl ?_
          all_goals (refine AWP.skip ?_)
          all_goals (refine AWP.seq ?_)
          all_goals (refine AWP.seqR rfl ?_)
          all_goals (first | (refine ASL.light rfl rfl (opFieldAddrR rfl fieldA_35_2 rfl rfl) ?_) | (refine ASL.light rfl rfl (opFieldAddr rfl fieldA_35_2 rfl rfl) ?_))
          all_goals (first | (refine ASL.light rfl rfl (opLoadR (v := .int _ _) rfl aggA_3 rfl rfl) ?_) | (refine ASL.light rfl rfl (opLoadOwnI rfl aggA_3 rfl (by assumption) (by first | omega | (simp; omega))) ?_))
          all_goals (first | (refine ASL.light rfl rfl (opFieldAddrR rfl fieldA_35_2 rfl rfl) ?_) | (refine ASL.light rfl rfl (opFieldAddr rfl fieldA_35_2 rfl rfl) ?_))
          all_goals (first | (refine ASL.light rfl rfl (opLoadR (v := .int _ _) rfl aggA_3 rfl rfl) ?_) | (refine ASL.light rfl rfl (opLoadOwnI rfl aggA_3 rfl (by assumption) (by first | omega | (simp; omega))) ?_))
          all_goals (refine ASL.dec rfl rfl (opInt rfl rfl rfl rfl) ?_ ?_ <;> intro h19)
          all_goals (refine ASL.done ?_)
          all_goals (first
            | (
              refine AWP.condT rfl ?_
              all_goals (refine AWP.seqR rfl ?_)
              all_goals (refine ASL.light rfl rfl (opAssign (v := .bool _) rfl rfl) ?_)
              all_goals (refine ASL.done ?_)
              all_goals (refine AWP.ret ?_)
              all_goals (repeat with_reducible refine QThen.ret1 ?_)
              all_goals (exact QRet.bool rfl rfl rfl (by symm; first | (apply decide_eq_false; rintro rfl; first | contradiction | omega | (simp_all; done)) | (apply decide_eq_true; cases a; cases c; simp_all))))
            | (
              refine AWP.condF rfl ?_
              all_goals (refine AWP.skip ?_)
              all_goals (refine AWP.seq ?_)
              all_goals (refine AWP.seqR rfl ?_)
              all_goals (first | (refine ASL.light rfl rfl (opFieldAddrR rfl fieldA_35_3 rfl rfl) ?_) | (refine ASL.light rfl rfl (opFieldAddr rfl fieldA_35_3 rfl rfl) ?_))
              all_goals (first | (refine ASL.light rfl rfl (opLoadR (v := .list _ _) rfl aggA_33 rfl rfl) ?_) | (refine ASL.light rfl rfl (opLoadR (v := .slc _ _ _ _) rfl aggA_33 rfl rfl) ?_) | (refine ASL.light rfl rfl (opLoadR (v := .nil) rfl aggA_33 rfl rfl) ?_) | (refine ASL.light rfl rfl (opLoadOwnM rfl aggA_33 rfl (by assumption) (by first | omega | (simp; omega)) (fun _ => rfl)) ?_))
              all_goals (first | (refine ASL.light rfl rfl (opFieldAddrR rfl fieldA_35_3 rfl rfl) ?_) | (refine ASL.light rfl rfl (opFieldAddr rfl fieldA_35_3 rfl rfl) ?_))
              all_goals (first | (refine ASL.light rfl rfl (opLoadR (v := .list _ _) rfl aggA_33 rfl rfl) ?_) | (refine ASL.light rfl rfl (opLoadR (v := .slc _ _ _ _) rfl aggA_33 rfl rfl) ?_) | (refine ASL.light rfl rfl (opLoadR (v := .nil) rfl aggA_33 rfl rfl) ?_) | (refine ASL.light rfl rfl (opLoadOwnM rfl aggA_33 rfl (by assumption) (by first | omega | (simp; omega)) (fun _ => rfl)) ?_))
              all_goals (refine ASL.callD rfl rfl rfl rfl call_90 (laws_eqEdgeS _ _ (by omega)) rfl ?_ ?_ <;> intro h24)
              all_goals (refine ASL.light rfl rfl (opNot rfl rfl) ?_)
              all_goals (refine ASL.done ?_)
              all_goals (first
                | (
                  refine AWP.condT rfl ?_
                  all_goals (refine AWP.seqR rfl ?_)
                  all_goals (refine ASL.light rfl rfl (opAssign (v := .bool _) rfl rfl) ?_)
                  all_goals (refine ASL.done ?_)
                  all_goals (refine AWP.ret ?_)
                  all_goals (repeat with_reducible refine QThen.ret1 ?_)
                  all_goals (exact QRet.bool rfl rfl rfl (by symm; first | (apply decide_eq_false; rintro rfl; first | contradiction | omega | (simp_all; done)) | (apply decide_eq_true; cases a; cases c; simp_all))))
                | (
                  refine AWP.condF rfl ?_
                  all_goals (refine AWP.skip ?_)
                  all_goals (refine AWP.seqR rfl ?_)
                  all_goals (refine ASL.light rfl rfl (opAssign (v := .bool _) rfl rfl) ?_)
                  all_goals (refine ASL.done ?_)
                  all_goals (refine AWP.ret ?_)
                  all_goals (repeat with_reducible refine QThen.ret1 ?_)
                  all_goals (exact QRet.bool rfl rfl rfl (by symm; first | (apply decide_eq_false; rintro rfl; first | contradiction | omega | (simp_all; done)) | (apply decide_eq_true; cases a; cases c; simp_all)))))))))))

set_option maxRecDepth 10000 in
theorem laws_eqNfa (n m : NfaD) (hx : n.a.es.length ≤ 1048576) : PC Try.prog 36 [nfaA n, nfaA m] (fun v => v = .bool (decide (n = m))) := by
  refine PC.enter Try.func36 rfl Try.ntmps36 (by simp) ?_
  all_goals (refine AWP.seqR rfl ?_)
  all_goals (refine ASL.boxI rfl rfl rfl rfl rfl ?_)
  all_goals (refine ASL.boxI rfl rfl rfl rfl rfl ?_)
  all_goals (refine ASL.light rfl rfl (opAssign (v := .bool _) rfl rfl) ?_)
  all_goals (refine ASL.done ?_)
  all_goals (refine AWP.seq ?_)
  all_goals (refine AWP.seqR rfl ?_)
  all_goals (first | (refine ASL.light rfl rfl (opFieldAddrR rfl fieldA_53_0 rfl rfl) ?_) | (refine ASL.light rfl rfl (opFieldAddr rfl fieldA_53_0 rfl rfl) ?_))
  all_goals (refine ASL.light rfl rfl (opLoadRA rfl aggA_35 sizeA_35 rfl (by first | exact Nat.le_of_ble_eq_true rfl | (simp; done)) rfl) ?_)
  all_goals (first | (refine ASL.light rfl rfl (opFieldAddrR rfl fieldA_53_0 rfl rfl) ?_) | (refine ASL.light rfl rfl (opFieldAddr rfl fieldA_53_0 rfl rfl) ?_))
  all_goals (refine ASL.light rfl rfl (opLoadRA rfl aggA_35 sizeA_35 rfl (by first | exact Nat.le_of_ble_eq_true rfl | (simp; done)) rfl) ?_)
  all_goals (refine ASL.callD rfl rfl rfl rfl call_43 (laws_eqAuto _ _ (by omega)) rfl ?_ ?_ <;> intro h9)
  all_goals (refine ASL.light rfl rfl (opNot rfl rfl) ?_)
  all_goals (refine ASL.done ?_)
  all_goals (first
    | (
      refine AWP.condT rfl ?_
      all_goals (refine AWP.seqR rfl ?_)
      all_goals (refine ASL.light rfl rfl (opAssign (v := .bool _) rfl rfl) ?_)
      all_goals (refine ASL.done ?_)
      all_goals (refine AWP.ret ?_)
      all_goals (repeat with_reducible refine QThen.ret1 ?_)
      all_goals (exact QRet.bool rfl rfl rfl (by symm; first | (apply decide_eq_false; rintro rfl; first | contradiction | omega | (simp_all; done)) | (apply decide_eq_true; cases n; cases m; simp_all))))
    | (
      refine AWP.condF rfl ?_
      all_goals (refine AWP.skip ?_)
      all_goals (refine AWP.seq ?_)
      all_goals (refine AWP.seqR rfl ?_)
      all_goals (first | (refine ASL.light rfl rfl (opFieldAddrR rfl fieldA_53_1 rfl rfl) ?_) | (refine ASL.light rfl rfl (opFieldAddr rfl fieldA_53_1 rfl rfl) ?_))
      all_goals (first | (refine ASL.light rfl rfl (opLoadR (v := .int _ _) rfl aggA_3 rfl rfl) ?_) | (refine ASL.light rfl rfl (opLoadOwnI rfl aggA_3 rfl (by assumption) (by first | omega | (simp; omega))) ?_))
      all_goals (first | (refine ASL.light rfl rfl (opFieldAddrR rfl fieldA_53_1 rfl rfl) ?_) | (refine ASL.light rfl rfl (opFieldAddr rfl fieldA_53_1 rfl rfl) ?_))
      all_goals (first | (refine ASL.light rfl rfl (opLoadR (v := .int _ _) rfl aggA_3 rfl rfl) ?_) | (refine ASL.light rfl rfl (opLoadOwnI rfl aggA_3 rfl (by assumption) (by first | omega | (simp; omega))) ?_))
      all_goals (refine ASL.dec rfl rfl (opInt rfl rfl rfl rfl) ?_ ?_ <;> intro h15)
      all_goals (refine ASL.done ?_)
      all_goals (first
        | (
          refine AWP.condT rfl ?_
          all_goals (refine AWP.seqR rfl ?_)
          all_goals (refine ASL.light rfl rfl (opAssign (v := .bool _) rfl rfl) ?_)
          all_goals (refine ASL.done ?_)
          all_goals (refine AWP.ret ?_)
          all_goals (repeat with_reducible refine QThen.ret1 ?_)
          all_goals (exact QRet.bool rfl rfl rfl (by symm; first | (apply decide_eq_false; rintro rfl; first | contradiction | omega | (simp_all; done)) | (apply decide_eq_true; cases n; cases m; simp_all))))
        | (
          refine AWP.condF rfl ?_
          all_goals (refine AWP.skip ?_)
          all_goals (refine AWP.seqR rfl ?_)
          all_goals (refine ASL.light rfl rfl (opAssign (v := .bool _) rfl rfl) ?_)
          all_goals (refine ASL.done ?_)
          all_goals (refine AWP.ret ?_)
          all_goals (repeat with_reducible refine QThen.ret1 ?_)
          all_goals (exact QRet.bool rfl rfl rfl (by symm; first | (apply decide_eq_false; rintro rfl; first | contradiction | omega | (simp_all; done)) | (apply decide_eq_true; cases n; cases m; simp_all)))))))

set_option maxRecDepth 10000 in
theorem spec_NfaOk (n : NfaD) (hl : n.a.es.length ≤ 1048576) : PC Try.prog 33 [nfaA n] (fun v => v = .bool (nfaOk n)) := by
  refine PC.enter Try.func33 rfl Try.ntmps33 (by simp) ?_
  all_goals (refine AWP.seqR rfl ?_)
  all_goals (refine ASL.boxI rfl rfl rfl rfl rfl ?_)
  all_goals (refine ASL.light rfl rfl (opAssign (v := .bool _) rfl rfl) ?_)
  all_goals (refine ASL.done ?_)
  all_goals (refine AWP.seq ?_)
  all_goals (refine AWP.seqD [(0, false), (1, false), (2, false), (3, false), (4, false), (5, false), (6, false), (7, false), (8, false), (9, false), (10, false), (11, false), (12, false), (13, false), (14, false)] mixed (by kernel_rfl) rfl ?_)
  all_goals (first | (refine ARL.light0 rfl rfl rfl (opFieldAddrR rfl fieldA_53_0 rfl rfl) ?_) | (refine ARL.light0 rfl rfl rfl (opFieldAddr rfl fieldA_53_0 rfl rfl) ?_))
  all_goals (refine ARL.light0 rfl rfl rfl (opLoadRA rfl aggA_35 sizeA_35 rfl (by first | exact Nat.le_of_ble_eq_true rfl | (simp; done)) rfl) ?_)
  all_goals (refine ARL.callB rfl rfl rfl rfl call_27 (spec_AutoOk _ (by omega)) rfl ?_ ?_ <;> intro h6)
  all_goals (refine ARL.light0 rfl rfl rfl (opNot rfl rfl) ?_)
  all_goals (refine ARL.light0 rfl rfl rfl (opMove (v := .bool _) rfl rfl) ?_)
  all_goals (first | (refine ARL.off rfl rfl ?_) | (refine ARL.light0 rfl rfl rfl (opFieldAddrR rfl fieldA_53_1 rfl rfl) ?_) | (refine ARL.light0 rfl rfl rfl (opFieldAddr rfl fieldA_53_1 rfl rfl) ?_))
  all_goals (first | (refine ARL.off rfl rfl ?_) | (refine ARL.light0 rfl rfl rfl (opLoadR (v := .int _ _) rfl aggA_3 rfl rfl) ?_) | (refine ARL.light rfl rfl rfl (opLoadOwnI rfl aggA_3 rfl (by assumption) (by first | omega | (simp; omega))) (by intro b_ hb_; rw [List.mem_singleton.mp hb_]; exact Own.alive (by assumption) (by first | omega | (simp; omega))) ?_))
  all_goals (first | (refine ARL.off rfl rfl ?_) | (refine ARL.light0 rfl rfl rfl (opFieldAddrR rfl fieldA_53_0 rfl rfl) ?_) | (refine ARL.light0 rfl rfl rfl (opFieldAddr rfl fieldA_53_0 rfl rfl) ?_))
  all_goals (first | (refine ARL.off rfl rfl ?_) | (refine ARL.light0 rfl rfl rfl (opFieldAddrR rfl fieldA_35_1 rfl rfl) ?_) | (refine ARL.light0 rfl rfl rfl (opFieldAddr rfl fieldA_35_1 rfl rfl) ?_))
  all_goals (first | (refine ARL.off rfl rfl ?_) | (refine ARL.light0 rfl rfl rfl (opLoadR (v := .int _ _) rfl aggA_3 rfl rfl) ?_) | (refine ARL.light rfl rfl rfl (opLoadOwnI rfl aggA_3 rfl (by assumption) (by first | omega | (simp; omega))) (by intro b_ hb_; rw [List.mem_singleton.mp hb_]; exact Own.alive (by assumption) (by first | omega | (simp; omega))) ?_))
  all_goals (first | (refine ARL.off rfl rfl ?_) | (have hh := (autoOk_inv (by assumption)).1; refine ARL.light0 rfl rfl rfl (opShl1 rfl rfl rfl (by omega)) ?_))
  all_goals (first | (refine ARL.off rfl rfl ?_) | (have hp := pow31 (n := n.a.n) (by omega); refine ARL.light0 rfl rfl rfl (opSub rfl rfl rfl (by omega)) ?_))
  all_goals (first | (refine ARL.off rfl rfl ?_) | (refine ARL.callD rfl rfl rfl rfl call_71 (spec_SetIn _ _) rfl ?_ ?_ <;> intro h16))
  all_goals (first | (refine ARL.off rfl rfl ?_) | (refine ARL.light0 rfl rfl rfl (opNot rfl rfl) ?_))
  all_goals (refine ARL.light0 rfl rfl rfl (opPick (v := .bool _) rfl rfl rfl) ?_)
  all_goals (refine ARL.done ?_)
  all_goals (first
    | (
      refine AWP.condT rfl ?_
      all_goals (refine AWP.seqR rfl ?_)
      all_goals (refine ASL.light rfl rfl (opAssign (v := .bool _) rfl rfl) ?_)
      all_goals (refine ASL.done ?_)
      all_goals (refine AWP.ret ?_)
      all_goals (repeat with_reducible refine QThen.ret1 ?_)
      all_goals (exact QRet.bool rfl rfl rfl (by first | exact nfaOk_auto (by assumption) | exact nfaOk_good (j := i) (by omega) (by assumption) | (have hh := (autoOk_inv (by assumption)).1; exact nfaOk_fin (fun k => absurd ((setIn_pow hh.2.1).mpr k) (by assumption))) | exact nfaOk_fin (by omega) | (have hh := (autoOk_inv (by assumption)).1; rw [← nfaOk_rest (by assumption) (fun j hj => hI0.2 j (by omega))]; symm; first | (apply decide_eq_true; exact (setIn_pow hh.2.1).mp (by assumption)) | (apply decide_eq_false; have hp := pow31 hh.2.1; omega) | (rw [decide_eq_decide]; have hp := pow31 hh.2.1; omega)))))
    | (
      refine AWP.condF rfl ?_
      all_goals (refine AWP.skip ?_)
      all_goals (refine AWP.seq ?_)
      all_goals (refine AWP.seqR rfl ?_)
      all_goals (refine ASL.light rfl rfl (opAssign (v := .int _ _) rfl rfl) ?_)
      all_goals (refine ASL.done ?_)
      all_goals (refine AWP.block ?_)
      all_goals (refine AWP.loopL (α := Nat) (fun i => [(1, .rptr [.int .i64 n.a.l, .int .i64 n.a.n, .int .i64 n.a.s, .list 4 (n.a.es.map edgeA), .int .i64 n.f]), (3, .int .i64 i)]) (fun i G => G = fun _ => none) (fun i => n.a.es.length - i) (fun i => i ≤ n.a.es.length ∧ ∀ j, j < i → (n.a.es.getD j default).g = false) 0 ⟨by omega, fun j hj => by omega⟩ ⟨rfl, rfl, trivial⟩ rfl ?_)
      rintro i G0 hI0 rfl
      all_goals (refine AWP.seq ?_)
      all_goals (refine AWP.seqR rfl ?_)
      all_goals (refine ASL.light rfl rfl (opMove (v := .int _ _) rfl rfl) ?_)
      all_goals (first | (refine ASL.light rfl rfl (opFieldAddrR rfl fieldA_53_0 rfl rfl) ?_) | (refine ASL.light rfl rfl (opFieldAddr rfl fieldA_53_0 rfl rfl) ?_))
      all_goals (first | (refine ASL.light rfl rfl (opFieldAddrR rfl fieldA_35_3 rfl rfl) ?_) | (refine ASL.light rfl rfl (opFieldAddr rfl fieldA_35_3 rfl rfl) ?_))
      all_goals (first | (refine ASL.light rfl rfl (opLoadR (v := .list _ _) rfl aggA_33 rfl rfl) ?_) | (refine ASL.light rfl rfl (opLoadR (v := .slc _ _ _ _) rfl aggA_33 rfl rfl) ?_) | (refine ASL.light rfl rfl (opLoadR (v := .nil) rfl aggA_33 rfl rfl) ?_) | (refine ASL.light rfl rfl (opLoadOwnM rfl aggA_33 rfl (by assumption) (by first | omega | (simp; omega)) (fun _ => rfl)) ?_))
      all_goals (first | (refine ASL.light rfl rfl (opLenMap rfl rfl rfl lenT_33 rfl) ?_) | (refine ASL.light rfl rfl (opLenOf rfl rfl rfl lenT_33 rfl rfl) ?_))
      all_goals (refine ASL.dec rfl rfl (opInt rfl rfl rfl rfl) ?_ ?_ <;> intro h24)
      all_goals (refine ASL.done ?_)
      all_goals (first
        | (
          refine AWP.condF rfl ?_
          all_goals (refine AWP.exit ?_))
        | (
          refine AWP.condT rfl ?_
          all_goals (refine AWP.skip ?_)
          all_goals (refine AWP.seq ?_)
          all_goals (refine AWP.block ?_)
          all_goals (refine AWP.seqR rfl ?_)
          all_goals (first | (refine ASL.light rfl rfl (opFieldAddrR rfl fieldA_53_0 rfl rfl) ?_) | (refine ASL.light rfl rfl (opFieldAddr rfl fieldA_53_0 rfl rfl) ?_))
          all_goals (first | (refine ASL.light rfl rfl (opFieldAddrR rfl fieldA_35_3 rfl rfl) ?_) | (refine ASL.light rfl rfl (opFieldAddr rfl fieldA_35_3 rfl rfl) ?_))
          all_goals (first | (refine ASL.light rfl rfl (opLoadR (v := .list _ _) rfl aggA_33 rfl rfl) ?_) | (refine ASL.light rfl rfl (opLoadR (v := .slc _ _ _ _) rfl aggA_33 rfl rfl) ?_) | (refine ASL.light rfl rfl (opLoadR (v := .nil) rfl aggA_33 rfl rfl) ?_) | (refine ASL.light rfl rfl (opLoadOwnM rfl aggA_33 rfl (by assumption) (by first | omega | (simp; omega)) (fun _ => rfl)) ?_))
          all_goals (refine ASL.light rfl rfl (opMove (v := .int _ _) rfl rfl) ?_)
          all_goals (first | (refine ASL.light rfl rfl (opIndexN rfl rfl rfl elemA_33 sizeA_96 (by omega) rfl) ?_) | (refine ASL.light rfl rfl (opIndexMap rfl rfl rfl elemA_33 sizeA_96 (by omega) (by omega) rfl) ?_) | (refine ASL.light rfl rfl (opIndexAddrN rfl rfl rfl elemA_33 sizeA_96 (by omega)) ?_) | (refine ASL.light rfl rfl (opIndexAddr rfl rfl rfl elemA_33 sizeA_96 (by omega) (by omega) rfl) ?_))
          all_goals (first | (refine ASL.light rfl rfl (opFieldAddrR rfl fieldA_96_3 rfl rfl) ?_) | (refine ASL.light rfl rfl (opFieldAddr rfl fieldA_96_3 rfl rfl) ?_))
          all_goals (refine ASL.bool rfl rfl (opLoadR (v := .bool _) rfl aggA_4 rfl rfl) ?_ ?_ <;> intro h33)
          all_goals (refine ASL.done ?_)
          all_goals (first
            | (
              refine AWP.condT rfl ?_
              all_goals (refine AWP.seqR rfl ?_)
              all_goals (refine ASL.light rfl rfl (opAssign (v := .bool _) rfl rfl) ?_)
              all_goals (refine ASL.done ?_)
              all_goals (refine AWP.ret ?_)
              all_goals (repeat with_reducible refine QThen.ret1 ?_)
              all_goals (exact QRet.bool rfl rfl rfl (by first | exact nfaOk_auto (by assumption) | exact nfaOk_good (j := i) (by omega) (by assumption) | (have hh := (autoOk_inv (by assumption)).1; exact nfaOk_fin (fun k => absurd ((setIn_pow hh.2.1).mpr k) (by assumption))) | exact nfaOk_fin (by omega) | (have hh := (autoOk_inv (by assumption)).1; rw [← nfaOk_rest (by assumption) (fun j hj => hI0.2 j (by omega))]; symm; first | (apply decide_eq_true; exact (setIn_pow hh.2.1).mp (by assumption)) | (apply decide_eq_false; have hp := pow31 hh.2.1; omega) | (rw [decide_eq_decide]; have hp := pow31 hh.2.1; omega)))))
            | (
              refine AWP.condF rfl ?_
              all_goals (refine AWP.skip ?_)))
          all_goals (refine AWP.lastR rfl ?_)
          all_goals (refine ASL.light rfl rfl (opMove (v := .int _ _) rfl rfl) ?_)
          all_goals (first | (refine ASL.light rfl rfl (opAdd rfl rfl rfl (by omega)) ?_) | (refine ASL.light rfl rfl (opInt rfl rfl rfl rfl) ?_))
          all_goals (refine ASL.light rfl rfl (opAssign (v := .int _ _) rfl rfl) ?_)
          all_goals (refine ASL.done ?_)
          all_goals (exact ⟨i + 1, ⟨by omega, notGood hI0.2 (by assumption)⟩, by omega, ⟨rfl, rfl, trivial⟩, rfl⟩)))
      all_goals (refine AWP.seqR rfl ?_)
      all_goals (refine ASL.light rfl rfl (opAssign (v := .bool _) rfl rfl) ?_)
      all_goals (refine ASL.done ?_)
      all_goals (refine AWP.ret ?_)
      all_goals (repeat with_reducible refine QThen.ret1 ?_)
      all_goals (exact QRet.bool rfl rfl rfl (by first | exact nfaOk_auto (by assumption) | exact nfaOk_good (j := i) (by omega) (by assumption) | (have hh := (autoOk_inv (by assumption)).1; exact nfaOk_fin (fun k => absurd ((setIn_pow hh.2.1).mpr k) (by assumption))) | exact nfaOk_fin (by omega) | (have hh := (autoOk_inv (by assumption)).1; rw [← nfaOk_rest (by assumption) (fun j hj => hI0.2 j (by omega))]; symm; first | (apply decide_eq_true; exact (setIn_pow hh.2.1).mp (by assumption)) | (apply decide_eq_false; have hp := pow31 hh.2.1; omega) | (rw [decide_eq_decide]; have hp := pow31 hh.2.1; omega))))))

set_option maxRecDepth 10000 in
theorem impl_NfaOk (n : NfaD) (hl : n.a.es.length ≤ 1048576) : PC Try.prog 35 [nfaA n] (fun v => v = .bool (nfaOk n)) := by
  refine PC.enter Try.func35 rfl Try.ntmps35 (by simp) ?_
  all_goals (refine AWP.seqR rfl ?_)
  all_goals (refine ASL.boxI rfl rfl rfl rfl rfl ?_)
  all_goals (refine ASL.light rfl rfl (opAssign (v := .bool _) rfl rfl) ?_)
  all_goals (refine ASL.done ?_)
  all_goals (refine AWP.seq ?_)
  all_goals (refine AWP.seqR rfl ?_)
  all_goals (first | (refine ASL.light rfl rfl (opFieldAddrR rfl fieldA_53_0 rfl rfl) ?_) | (refine ASL.light rfl rfl (opFieldAddr rfl fieldA_53_0 rfl rfl) ?_))
  all_goals (first | (refine ASL.light rfl rfl (opFieldAddrR rfl fieldA_35_3 rfl rfl) ?_) | (refine ASL.light rfl rfl (opFieldAddr rfl fieldA_35_3 rfl rfl) ?_))
  all_goals (first | (refine ASL.light rfl rfl (opLoadR (v := .list _ _) rfl aggA_33 rfl rfl) ?_) | (refine ASL.light rfl rfl (opLoadR (v := .slc _ _ _ _) rfl aggA_33 rfl rfl) ?_) | (refine ASL.light rfl rfl (opLoadR (v := .nil) rfl aggA_33 rfl rfl) ?_) | (refine ASL.light rfl rfl (opLoadOwnM rfl aggA_33 rfl (by assumption) (by first | omega | (simp; omega)) (fun _ => rfl)) ?_))
  all_goals (first | (refine ASL.light rfl rfl (opLenMap rfl rfl rfl lenT_33 rfl) ?_) | (refine ASL.light rfl rfl (opLenOf rfl rfl rfl lenT_33 rfl rfl) ?_))
  all_goals (refine ASL.light rfl rfl (opMove (v := .int _ _) rfl rfl) ?_)
  all_goals (refine ASL.done ?_)
  all_goals (refine AWP.block ?_)
  all_goals (refine AWP.loopL (α := Nat) (fun i => [(1, .rptr [.int .i64 n.a.l, .int .i64 n.a.n, .int .i64 n.a.s, .list 4 (n.a.es.map edgeA), .int .i64 n.f]), (7, .list 4 (n.a.es.map edgeA)), (8, .int .i64 n.a.es.length), (9, .int .i64 i)]) (fun i G => G = fun _ => none) (fun i => n.a.es.length - i) (fun i => i ≤ n.a.es.length ∧ ∀ j, j < i → (n.a.es.getD j default).g = false) 0 ⟨by omega, fun j hj => by omega⟩ ⟨rfl, rfl, rfl, rfl, trivial⟩ rfl ?_)
  rintro i G0 hI0 rfl
  all_goals (refine AWP.seqR rfl ?_)
  all_goals (refine ASL.dec rfl rfl (opInt rfl rfl rfl rfl) ?_ ?_ <;> intro h10)
  all_goals (refine ASL.done ?_)
  all_goals (refine AWP.seq ?_)
  all_goals (first
    | (
      refine AWP.condF rfl ?_
      all_goals (refine AWP.exit ?_))
    | (
      refine AWP.condT rfl ?_
      all_goals (refine AWP.skip ?_)
      all_goals (refine AWP.seq ?_)
      all_goals (refine AWP.block ?_)
      all_goals (refine AWP.seqR rfl ?_)
      all_goals (first | (refine ASL.light rfl rfl (opIndexN rfl rfl rfl elemA_33 sizeA_96 (by omega) rfl) ?_) | (refine ASL.light rfl rfl (opIndexMap rfl rfl rfl elemA_33 sizeA_96 (by omega) (by omega) rfl) ?_) | (refine ASL.light rfl rfl (opIndexAddrN rfl rfl rfl elemA_33 sizeA_96 (by omega)) ?_) | (refine ASL.light rfl rfl (opIndexAddr rfl rfl rfl elemA_33 sizeA_96 (by omega) (by omega) rfl) ?_))
      all_goals (refine ASL.light rfl rfl (opLoadRA rfl aggA_96 sizeA_96 rfl (by first | exact Nat.le_of_ble_eq_true rfl | (simp; done)) rfl) ?_)
      all_goals (refine ASL.heavy1 rfl rfl (opAlloc rfl zeroA_96 ?_); intro b4 hb4)
      all_goals (refine ASL.store rfl rfl (opStoreNew rfl sizeA_96 rfl rfl (Heap.set_same _ _ _) rfl rfl rfl rfl ?_))
      all_goals (refine ASL.done ?_)
      all_goals (refine AWP.settle 4 rfl (Heap.set_same _ _ _) hb4 (fun c x hc hne => by rw [Heap.set_ne _ _ hne, Heap.set_ne _ _ hne]; exact hc) ?_)
      all_goals (refine AWP.seqR rfl ?_)
      all_goals (first | (refine ASL.light rfl rfl (opFieldAddrR rfl fieldA_96_3 rfl rfl) ?_) | (refine ASL.light rfl rfl (opFieldAddr rfl fieldA_96_3 rfl rfl) ?_))
      all_goals (refine ASL.bool rfl rfl (opLoadR (v := .bool _) rfl aggA_4 rfl rfl) ?_ ?_ <;> intro h14)
      all_goals (refine ASL.done ?_)
      all_goals (first
        | (
          refine AWP.condT rfl ?_
          all_goals (refine AWP.seqR rfl ?_)
          all_goals (refine ASL.light rfl rfl (opAssign (v := .bool _) rfl rfl) ?_)
          all_goals (refine ASL.done ?_)
          all_goals (refine AWP.ret ?_)
          all_goals (repeat with_reducible refine QThen.ret1 ?_)
          all_goals (exact QRet.bool rfl rfl rfl (by first | exact nfaOk_auto (by assumption) | exact nfaOk_good (j := i) (by omega) (by assumption) | (have hh := (autoOk_inv (by assumption)).1; exact nfaOk_fin (fun k => absurd ((setIn_pow hh.2.1).mpr k) (by assumption))) | exact nfaOk_fin (by omega) | (have hh := (autoOk_inv (by assumption)).1; rw [← nfaOk_rest (by assumption) (fun j hj => hI0.2 j (by omega))]; symm; first | (apply decide_eq_true; exact (setIn_pow hh.2.1).mp (by assumption)) | (apply decide_eq_false; have hp := pow31 hh.2.1; omega) | (rw [decide_eq_decide]; have hp := pow31 hh.2.1; omega)))))
        | (
          refine AWP.condF rfl ?_
          all_goals (refine AWP.skip ?_)))
      all_goals (refine AWP.lastR rfl ?_)
      all_goals (first | (refine ASL.light rfl rfl (opAdd rfl rfl rfl (by omega)) ?_) | (refine ASL.light rfl rfl (opInt rfl rfl rfl rfl) ?_))
      all_goals (refine ASL.light rfl rfl (opMove (v := .int _ _) rfl rfl) ?_)
      all_goals (refine ASL.done ?_)
      all_goals (exact ⟨i + 1, ⟨by omega, notGood hI0.2 (by assumption)⟩, by omega, ⟨rfl, rfl, rfl, rfl, trivial⟩, rfl⟩)))
  all_goals (refine AWP.seqD [(0, false), (1, false), (2, false), (3, false), (4, false), (5, false), (6, false), (7, false), (8, false), (9, false), (10, false), (11, false), (12, false), (13, false), (14, false), (15, false), (16, false), (17, false)] mixed (by kernel_rfl) rfl ?_)
  all_goals (first | (refine ARL.light0 rfl rfl rfl (opFieldAddrR rfl fieldA_53_0 rfl rfl) ?_) | (refine ARL.light0 rfl rfl rfl (opFieldAddr rfl fieldA_53_0 rfl rfl) ?_))
  all_goals (refine ARL.light0 rfl rfl rfl (opLoadRA rfl aggA_35 sizeA_35 rfl (by first | exact Nat.le_of_ble_eq_true rfl | (simp; done)) rfl) ?_)
  all_goals (refine ARL.callB rfl rfl rfl rfl call_75 (impl_AutoOk _ (by omega)) rfl ?_ ?_ <;> intro h18)
  all_goals (refine ARL.light0 rfl rfl rfl (opMove (v := .bool _) rfl rfl) ?_)
  all_goals (first | (refine ARL.off rfl rfl ?_) | (refine ARL.light0 rfl rfl rfl (opFieldAddrR rfl fieldA_53_1 rfl rfl) ?_) | (refine ARL.light0 rfl rfl rfl (opFieldAddr rfl fieldA_53_1 rfl rfl) ?_))
  all_goals (first | (refine ARL.off rfl rfl ?_) | (refine ARL.light0 rfl rfl rfl (opLoadR (v := .int _ _) rfl aggA_3 rfl rfl) ?_) | (refine ARL.light rfl rfl rfl (opLoadOwnI rfl aggA_3 rfl (by assumption) (by first | omega | (simp; omega))) (by intro b_ hb_; rw [List.mem_singleton.mp hb_]; exact Own.alive (by assumption) (by first | omega | (simp; omega))) ?_))
  all_goals (first | (refine ARL.off rfl rfl ?_) | (refine ARL.callD rfl rfl rfl rfl call_81 (impl_SetOk _) rfl ?_ ?_ <;> intro h22))
  all_goals (refine ARL.light0 rfl rfl rfl (opPick (v := .bool _) rfl rfl rfl) ?_)
  all_goals (refine ARL.light0 rfl rfl rfl (opMove (v := .bool _) rfl rfl) ?_)
  all_goals (first | (refine ARL.off rfl rfl ?_) | (refine ARL.light0 rfl rfl rfl (opFieldAddrR rfl fieldA_53_1 rfl rfl) ?_) | (refine ARL.light0 rfl rfl rfl (opFieldAddr rfl fieldA_53_1 rfl rfl) ?_))
  all_goals (first | (refine ARL.off rfl rfl ?_) | (refine ARL.light0 rfl rfl rfl (opLoadR (v := .int _ _) rfl aggA_3 rfl rfl) ?_) | (refine ARL.light rfl rfl rfl (opLoadOwnI rfl aggA_3 rfl (by assumption) (by first | omega | (simp; omega))) (by intro b_ hb_; rw [List.mem_singleton.mp hb_]; exact Own.alive (by assumption) (by first | omega | (simp; omega))) ?_))
  all_goals (first | (refine ARL.off rfl rfl ?_) | (refine ARL.light0 rfl rfl rfl (opFieldAddrR rfl fieldA_53_0 rfl rfl) ?_) | (refine ARL.light0 rfl rfl rfl (opFieldAddr rfl fieldA_53_0 rfl rfl) ?_))
  all_goals (first | (refine ARL.off rfl rfl ?_) | (refine ARL.light0 rfl rfl rfl (opFieldAddrR rfl fieldA_35_1 rfl rfl) ?_) | (refine ARL.light0 rfl rfl rfl (opFieldAddr rfl fieldA_35_1 rfl rfl) ?_))
  all_goals (first | (refine ARL.off rfl rfl ?_) | (refine ARL.light0 rfl rfl rfl (opLoadR (v := .int _ _) rfl aggA_3 rfl rfl) ?_) | (refine ARL.light rfl rfl rfl (opLoadOwnI rfl aggA_3 rfl (by assumption) (by first | omega | (simp; omega))) (by intro b_ hb_; rw [List.mem_singleton.mp hb_]; exact Own.alive (by assumption) (by first | omega | (simp; omega))) ?_))
  all_goals (first | (refine ARL.off rfl rfl ?_) | (have hh := (autoOk_inv (by assumption)).1; refine ARL.callP rfl rfl rfl rfl call_82 (impl_only _ (by omega)) rfl ?_; rintro _ rfl))
  all_goals (first | (refine ARL.off rfl rfl ?_) | (refine ARL.light0 rfl rfl rfl (opInt rfl rfl rfl rfl) ?_))
  all_goals (refine ARL.light0 rfl rfl rfl (opPick (v := .bool _) rfl rfl rfl) ?_)
  all_goals (refine ARL.light0 rfl rfl rfl (opAssign (v := .bool _) rfl rfl) ?_)
  all_goals (refine ARL.done ?_)
  all_goals (refine AWP.ret ?_)
  all_goals (repeat with_reducible refine QThen.ret1 ?_)
  all_goals (exact QRet.bool rfl rfl rfl (by first | exact nfaOk_auto (by assumption) | exact nfaOk_good (j := i) (by omega) (by assumption) | (have hh := (autoOk_inv (by assumption)).1; exact nfaOk_fin (fun k => absurd ((setIn_pow hh.2.1).mpr k) (by assumption))) | exact nfaOk_fin (by omega) | (have hh := (autoOk_inv (by assumption)).1; rw [← nfaOk_rest (by assumption) (fun j hj => hI0.2 j (by omega))]; symm; first | (apply decide_eq_true; exact (setIn_pow hh.2.1).mp (by assumption)) | (apply decide_eq_false; have hp := pow31 hh.2.1; omega) | (rw [decide_eq_decide]; have hp := pow31 hh.2.1; omega))))

theorem laws_szNfa_no (n : NfaD) (h : n.a.es.length ≤ 1048576) : PC Try.prog 32 [nfaA n, .int .i64 1048576] (fun v => v = .int .i64 (1048576 - n.a.es.length)) :=
  (laws_szNfa _ _ (by omega) (by omega)).mono fun v hv => by rw [if_neg (by omega)] at hv; exact hv
theorem laws_szNfa_yes (n : NfaD) (h : n.a.es.length ≤ 9223372036854775807) (k : ¬ n.a.es.length ≤ 1048576) : PC Try.prog 32 [nfaA n, .int .i64 1048576] (fun v => v = .int .i64 (-1)) :=
  (laws_szNfa _ _ h (by omega)).mono fun v hv => by rw [if_pos (by omega)] at hv; exact hv

set_option maxRecDepth 10000 in
theorem laws_FnExactNfaOk (n : NfaD) (hx : n.a.es.length ≤ 9223372036854775807) : PC Try.prog 7 [nfaA n] (fun v => v = .bool true) := by
  refine PC.enter Try.func7 rfl Try.ntmps7 (by simp) ?_
  by_cases hz : n.a.es.length ≤ 1048576
  all_goals (refine AWP.seqR rfl ?_)
  all_goals (refine ASL.boxI rfl rfl rfl rfl rfl ?_)
  all_goals (refine ASL.light rfl rfl (opAssign (v := .bool _) rfl rfl) ?_)
  all_goals (refine ASL.done ?_)
  all_goals (refine AWP.seqR rfl ?_)
  all_goals (refine ASL.light rfl rfl (opAssign (v := .int _ _) rfl rfl) ?_)
  all_goals (refine ASL.done ?_)
  all_goals (refine AWP.seqR rfl ?_)
  all_goals (refine ASL.light rfl rfl (opLoadRA rfl aggA_49 sizeA_49 rfl (by first | exact Nat.le_of_ble_eq_true rfl | (simp; done)) rfl) ?_)
  all_goals (refine ASL.light rfl rfl (opMove (v := .int _ _) rfl rfl) ?_)
  all_goals (first | (refine ASL.callP rfl rfl rfl rfl call_32 (laws_szNfa_no _ (by omega)) rfl ?_; rintro _ rfl) | (refine ASL.callP rfl rfl rfl rfl call_32 (laws_szNfa_yes _ (by omega) (by omega)) rfl ?_; rintro _ rfl))
  all_goals (refine ASL.light rfl rfl (opAssign (v := .int _ _) rfl rfl) ?_)
  all_goals (refine ASL.done ?_)
  all_goals (refine AWP.seq ?_)
  all_goals (refine AWP.seqR rfl ?_)
  all_goals (refine ASL.light rfl rfl (opMove (v := .int _ _) rfl rfl) ?_)
  all_goals (refine ASL.dec rfl rfl (opInt rfl rfl rfl rfl) ?_ ?_ <;> intro h11)
  all_goals (refine ASL.done ?_)
  all_goals (first
    | (
      refine AWP.condT rfl ?_
      all_goals (refine AWP.seqR rfl ?_)
      all_goals (refine ASL.light rfl rfl (opAssign (v := .bool _) rfl rfl) ?_)
      all_goals (refine ASL.done ?_)
      all_goals (refine AWP.ret ?_)
      all_goals (repeat with_reducible refine QThen.ret1 ?_)
      all_goals (exact QRet.bool rfl rfl rfl (by first | rfl | (exfalso; first | omega | contradiction | (simp_all; done)))))
    | (
      refine AWP.condF rfl ?_
      all_goals (refine AWP.skip ?_)
      all_goals (refine AWP.seqR rfl ?_)
      all_goals (refine ASL.light rfl rfl (opLoadRA rfl aggA_49 sizeA_49 rfl (by first | exact Nat.le_of_ble_eq_true rfl | (simp; done)) rfl) ?_)
      all_goals (refine ASL.callP rfl rfl rfl rfl call_34 (laws_toNfa _ (by omega)) rfl ?_; rintro _ rfl)
      all_goals (refine ASL.callB rfl rfl rfl rfl call_33 (spec_NfaOk _ (by omega)) rfl ?_ ?_ <;> intro h14)
      all_goals (refine ASL.light rfl rfl (opAssign (v := .bool _) rfl rfl) ?_)
      all_goals (refine ASL.done ?_)
      all_goals (refine AWP.seqR rfl ?_)
      all_goals (refine ASL.light rfl rfl (opLoadRA rfl aggA_49 sizeA_49 rfl (by first | exact Nat.le_of_ble_eq_true rfl | (simp; done)) rfl) ?_)
      all_goals (refine ASL.callP rfl rfl rfl rfl call_34 (laws_toNfa _ (by omega)) rfl ?_; rintro _ rfl)
      all_goals (refine ASL.heavy1 rfl rfl (opAllocAt rfl zeroA_53 ?_); rintro b5 G5 hT5 hK5 hN5)
      all_goals (refine ASL.store rfl rfl (opStoreAtA rfl sizeA_53 rfl rfl hT5 rfl (by first | rfl | (simp [cells]; done)) (by first | rfl | (simp [cells]; done)) (Nat.le_of_ble_eq_true rfl) ?_); rintro Gs1 hT5 hB1)
      all_goals (refine ASL.done ?_)
      all_goals (refine AWP.seqR rfl ?_)
      all_goals (refine ASL.light rfl rfl (opLoadAtA rfl aggA_53 sizeA_53 rfl hT5 (Nat.le_of_ble_eq_true rfl)) ?_)
      all_goals (refine ASL.callB rfl rfl rfl rfl call_35 (impl_NfaOk _ (by omega)) rfl ?_ ?_ <;> intro h18)
      all_goals (refine ASL.light rfl rfl (opAssign (v := .bool _) rfl rfl) ?_)
      all_goals (refine ASL.done ?_)
      all_goals (refine AWP.seq ?_)
      all_goals (refine AWP.seqR rfl ?_)
      all_goals (refine ASL.light rfl rfl (opMove (v := .bool _) rfl rfl) ?_)
      all_goals (refine ASL.light rfl rfl (opMove (v := .bool _) rfl rfl) ?_)
      all_goals (refine ASL.bool rfl rfl (opBoolEq rfl rfl rfl und_4 rfl) ?_ ?_ <;> intro h21)
      all_goals (refine ASL.done ?_)
      all_goals (first
        | (
          refine AWP.condT rfl ?_
          all_goals (refine AWP.seqR rfl ?_)
          all_goals (refine ASL.light rfl rfl (opAssign (v := .bool _) rfl rfl) ?_)
          all_goals (refine ASL.done ?_)
          all_goals (refine AWP.ret ?_)
          all_goals (repeat with_reducible refine QThen.ret1 ?_)
          all_goals (exact QRet.bool rfl rfl rfl (by first | rfl | (exfalso; first | omega | contradiction | (simp_all; done)))))
        | (
          refine AWP.condF rfl ?_
          all_goals (refine AWP.skip ?_)
          all_goals (refine AWP.seq ?_)
          all_goals (refine AWP.seqD [(0, false), (1, false), (2, false), (3, false), (4, false)] mixed (by kernel_rfl) rfl ?_)
          all_goals (refine ARL.light rfl rfl rfl (opLoadAtA rfl aggA_53 sizeA_53 rfl hT5 (Nat.le_of_ble_eq_true rfl)) (by intro b_ hb_; rw [List.mem_singleton.mp hb_]; exact At.alive hT5) ?_)
          all_goals (refine ARL.light0 rfl rfl rfl (opLoadRA rfl aggA_49 sizeA_49 rfl (by first | exact Nat.le_of_ble_eq_true rfl | (simp; done)) rfl) ?_)
          all_goals (refine ARL.callP rfl rfl rfl rfl call_34 (laws_toNfa _ (by omega)) rfl ?_; rintro _ rfl)
          all_goals (refine ARL.callD rfl rfl rfl rfl call_36 (laws_eqNfa _ _ (by omega)) rfl ?_ ?_ <;> intro h25)
          all_goals (refine ARL.light0 rfl rfl rfl (opNot rfl rfl) ?_)
          all_goals (refine ARL.done ?_)
          all_goals (first
            | (
              refine AWP.condT rfl ?_
              all_goals (refine AWP.seqR rfl ?_)
              all_goals (refine ASL.light rfl rfl (opAssign (v := .bool _) rfl rfl) ?_)
              all_goals (refine ASL.done ?_)
              all_goals (refine AWP.ret ?_)
              all_goals (repeat with_reducible refine QThen.ret1 ?_)
              all_goals (exact QRet.bool rfl rfl rfl (by first | rfl | (exfalso; first | omega | contradiction | (simp_all; done)))))
            | (
              refine AWP.condF rfl ?_
              all_goals (refine AWP.skip ?_)
              all_goals (refine AWP.seqR rfl ?_)
              all_goals (refine ASL.light rfl rfl (opAssign (v := .bool _) rfl rfl) ?_)
              all_goals (refine ASL.done ?_)
              all_goals (refine AWP.ret ?_)
              all_goals (repeat with_reducible refine QThen.ret1 ?_)
              all_goals (exact QRet.bool rfl rfl rfl (by first | rfl | (exfalso; first | omega | contradiction | (simp_all; done))))))))))

theorem edge_of {a : AV} (h : OkA Try.prog 140 a) : ∃ d : EdgeD, a = edgeA d := by
  obtain ⟨ys, rfl, hl, n, hf⟩ := h.struct Try.underlying140
  rw [cellsOf_140] at hl
  have hf : ∀ f ∈ [(3, 0, 1), (3, 1, 1), (3, 2, 1), (4, 3, 1)], OkT Try.prog n f.1 ((ys.drop f.2.1).take f.2.2) := by
    intro f hm
    simp only [List.mem_cons, List.not_mem_nil, or_false] at hm
    rcases hm with rfl | rfl | rfl | rfl
    · have q := hf _ (List.mem_of_getElem? (i := 0) rfl); dsimp only at q; rw [cellsOf_3] at q; exact q
    · have q := hf _ (List.mem_of_getElem? (i := 1) rfl); dsimp only at q; rw [cellsOf_3] at q; exact q
    · have q := hf _ (List.mem_of_getElem? (i := 2) rfl); dsimp only at q; rw [cellsOf_3] at q; exact q
    · have q := hf _ (List.mem_of_getElem? (i := 3) rfl); dsimp only at q; rw [cellsOf_4] at q; exact q
  obtain ⟨x0, r0, rfl, hl0⟩ := consOf hl
  obtain ⟨x1, r1, rfl, hl1⟩ := consOf hl0
  obtain ⟨x2, r2, rfl, hl2⟩ := consOf hl1
  obtain ⟨x3, r3, rfl, hl3⟩ := consOf hl2
  obtain rfl := List.eq_nil_of_length_eq_zero hl3
  have f0 := hf _ (List.mem_of_getElem? (i := 0) rfl)
  obtain ⟨v0, rfl, _⟩ := (OkT.A aggA_3 f0).int Try.underlying3
  have f1 := hf _ (List.mem_of_getElem? (i := 1) rfl)
  obtain ⟨v1, rfl, _⟩ := (OkT.A aggA_3 f1).int Try.underlying3
  have f2 := hf _ (List.mem_of_getElem? (i := 2) rfl)
  obtain ⟨v2, rfl, _⟩ := (OkT.A aggA_3 f2).int Try.underlying3
  have f3 := hf _ (List.mem_of_getElem? (i := 3) rfl)
  obtain ⟨v3, rfl⟩ := (OkT.A aggA_4 f3).bool Try.underlying4
  exact ⟨⟨v0, v1, v2, v3⟩, rfl⟩

theorem auto_of {a : AV} (h : OkA Try.prog 47 a) : ∃ d : AutoD, a = autoA d ∧ d.es.length ≤ Go.maxLen := by
  obtain ⟨ys, rfl, hl, n, hf⟩ := h.struct Try.underlying47
  rw [cellsOf_47] at hl
  have hf : ∀ f ∈ [(3, 0, 1), (3, 1, 1), (3, 2, 1), (45, 3, 1)], OkT Try.prog n f.1 ((ys.drop f.2.1).take f.2.2) := by
    intro f hm
    simp only [List.mem_cons, List.not_mem_nil, or_false] at hm
    rcases hm with rfl | rfl | rfl | rfl
    · have q := hf _ (List.mem_of_getElem? (i := 0) rfl); dsimp only at q; rw [cellsOf_3] at q; exact q
    · have q := hf _ (List.mem_of_getElem? (i := 1) rfl); dsimp only at q; rw [cellsOf_3] at q; exact q
    · have q := hf _ (List.mem_of_getElem? (i := 2) rfl); dsimp only at q; rw [cellsOf_3] at q; exact q
    · have q := hf _ (List.mem_of_getElem? (i := 3) rfl); dsimp only at q; rw [cellsOf_45] at q; exact q
  obtain ⟨x0, r0, rfl, hl0⟩ := consOf hl
  obtain ⟨x1, r1, rfl, hl1⟩ := consOf hl0
  obtain ⟨x2, r2, rfl, hl2⟩ := consOf hl1
  obtain ⟨x3, r3, rfl, hl3⟩ := consOf hl2
  obtain rfl := List.eq_nil_of_length_eq_zero hl3
  have f0 := hf _ (List.mem_of_getElem? (i := 0) rfl)
  obtain ⟨v0, rfl, _⟩ := (OkT.A aggA_3 f0).int Try.underlying3
  have f1 := hf _ (List.mem_of_getElem? (i := 1) rfl)
  obtain ⟨v1, rfl, _⟩ := (OkT.A aggA_3 f1).int Try.underlying3
  have f2 := hf _ (List.mem_of_getElem? (i := 2) rfl)
  obtain ⟨v2, rfl, _⟩ := (OkT.A aggA_3 f2).int Try.underlying3
  have f3 := hf _ (List.mem_of_getElem? (i := 3) rfl)
  obtain ⟨xs3, rfl, k3, m3⟩ := (OkT.A aggA_45 f3).slice elemA_45
  obtain ⟨v3, rfl, _⟩ := map_of edgeA (fun _ => True) fun x hx => (by obtain ⟨d, hd⟩ := edge_of (m3 x hx); exact ⟨d, hd, trivial⟩)
  rw [cellsOf_140] at *; simp only [List.length_map] at k3
  exact ⟨⟨v0, v1, v2, v3⟩, rfl, k3⟩

theorem nfa_of {a : AV} (h : OkA Try.prog 49 a) : ∃ d : NfaD, a = nfaA d ∧ d.a.es.length ≤ Go.maxLen := by
  obtain ⟨ys, rfl, hl, n, hf⟩ := h.struct Try.underlying49
  rw [cellsOf_49] at hl
  have hf : ∀ f ∈ [(47, 0, 4), (3, 4, 1)], OkT Try.prog n f.1 ((ys.drop f.2.1).take f.2.2) := by
    intro f hm
    simp only [List.mem_cons, List.not_mem_nil, or_false] at hm
    rcases hm with rfl | rfl
    · have q := hf _ (List.mem_of_getElem? (i := 0) rfl); dsimp only at q; rw [cellsOf_47] at q; exact q
    · have q := hf _ (List.mem_of_getElem? (i := 1) rfl); dsimp only at q; rw [cellsOf_3] at q; exact q
  obtain ⟨x0, r0, rfl, hl0⟩ := consOf hl
  obtain ⟨x1, r1, rfl, hl1⟩ := consOf hl0
  obtain ⟨x2, r2, rfl, hl2⟩ := consOf hl1
  obtain ⟨x3, r3, rfl, hl3⟩ := consOf hl2
  obtain ⟨x4, r4, rfl, hl4⟩ := consOf hl3
  obtain rfl := List.eq_nil_of_length_eq_zero hl4
  have f0 := hf _ (List.mem_of_getElem? (i := 0) rfl)
  obtain ⟨v0, e0, k0⟩ := auto_of (OkT.G aggA_47 f0)
  cases v0; simp only [autoA, AV.agg.injEq, List.drop_zero, List.drop_succ_cons, List.take_succ_cons, List.take_zero, List.cons.injEq, and_true] at e0
  obtain ⟨rfl, rfl, rfl, rfl⟩ := e0
  have f1 := hf _ (List.mem_of_getElem? (i := 1) rfl)
  obtain ⟨v1, rfl, _⟩ := (OkT.A aggA_3 f1).int Try.underlying3
  exact ⟨⟨⟨_, _, _, _⟩, v1⟩, rfl, k0⟩

end Go.Proofs.Ytcmlckgdhnffmaa
