/- Whole numbers as sets of bits; variables with a place in memory that are written once. -/
import Derived.Test.YthdoebgikbfndaaE10
namespace Go.Proofs.Ythdoebgikbfndaa.E
open Go Go.RowKit
set_option linter.unusedVariables false

section
variable {P : Program} {o : Oper} {e : Env} {H : Heap} {K : AV → Heap → Prop}
theorem ofInt_toNat {a : Int} (h : 0 ≤ a ∧ a ≤ 9223372036854775807) : (BitVec.ofInt 64 a).toNat = a.toNat := by
  rw [BitVec.toNat_ofInt]
  rw [Int.emod_eq_of_lt h.1 (by have : ((2 ^ 64 : Nat) : Int) = 18446744073709551616 := by decide
                                omega)]
theorem opAndN {xT yT : TypeId} {x y : Operand} {a b : Int} (ho : o.op = .binOp .and xT x y yT) (hx : ev e x = .int .i64 a) (hy : ev e y = .int .i64 b) (ha : 0 ≤ a ∧ a ≤ 9223372036854775807) (hb : 0 ≤ b ∧ b ≤ 9223372036854775807) :
    Light P o e H (.int .i64 ((a.toNat &&& b.toNat : Nat) : Int)) [] := by
  refine opInt ho hx hy ?_
  have e1 : (BitVec.ofInt IntKind.i64.bits a &&& BitVec.ofInt IntKind.i64.bits b).toNat = a.toNat &&& b.toNat := by
    show (BitVec.ofInt 64 a &&& BitVec.ofInt 64 b).toNat = _
    rw [BitVec.toNat_and, ofInt_toNat ha, ofInt_toNat hb]
  have e2 : a.toNat &&& b.toNat ≤ a.toNat := Nat.and_le_left
  simp only [intRes]
  rw [e1, wrap_ok ⟨by omega, by omega⟩]
theorem opOrN {xT yT : TypeId} {x y : Operand} {a b : Int} (ho : o.op = .binOp .or xT x y yT) (hx : ev e x = .int .i64 a) (hy : ev e y = .int .i64 b) (ha : 0 ≤ a ∧ a ≤ 9223372036854775807) (hb : 0 ≤ b ∧ b ≤ 9223372036854775807) :
    Light P o e H (.int .i64 ((a.toNat ||| b.toNat : Nat) : Int)) [] := by
  refine opInt ho hx hy ?_
  have e1 : (BitVec.ofInt IntKind.i64.bits a ||| BitVec.ofInt IntKind.i64.bits b).toNat = a.toNat ||| b.toNat := by
    show (BitVec.ofInt 64 a ||| BitVec.ofInt 64 b).toNat = _
    rw [BitVec.toNat_or, ofInt_toNat ha, ofInt_toNat hb]
  have e2 : a.toNat ||| b.toNat < 2 ^ 63 := Nat.or_lt_two_pow (by omega) (by omega)
  simp only [intRes]
  rw [e1, wrap_ok ⟨by omega, by omega⟩]
theorem opShl1 {xT yT : TypeId} {x y : Operand} {k' : IntKind} {b : Int} (ho : o.op = .binOp .shl xT x y yT) (hx : ev e x = .int .i64 1) (hy : ev e y = .int k' b) (hb : 0 ≤ b ∧ b ≤ 62) :
    Light P o e H (.int .i64 ((2 ^ b.toNat : Nat) : Int)) [] := by
  refine opShl ho hx hy hb.1 ?_
  have e1 : min b.toNat IntKind.i64.bits = b.toNat := by
    show min b.toNat 64 = _
    omega
  have e2 : (2 : Nat) ^ b.toNat ≤ 2 ^ 62 := Nat.pow_le_pow_right (by omega) (by omega)
  have e3 : (1 : Int) * 2 ^ b.toNat = ((2 ^ b.toNat : Nat) : Int) := by rw [Int.one_mul]; exact (Int.natCast_pow 2 _).symm
  rw [e1, e3]
  generalize 2 ^ b.toNat = q at e2
  rw [wrap_ok ⟨by omega, by omega⟩]
/-- A bit of a set. -/
theorem opShrN {xT yT : TypeId} {x y : Operand} {k' : IntKind} {a b : Int} (ho : o.op = .binOp .shr xT x y yT) (hx : ev e x = .int .i64 a) (hy : ev e y = .int k' b) (ha : 0 ≤ a ∧ a ≤ 9223372036854775807) (hb : 0 ≤ b ∧ b ≤ 63) :
    Light P o e H (.int .i64 ((a.toNat >>> b.toNat : Nat) : Int)) [] := by
  refine opShr ho hx hy hb.1 ?_
  have e1 : min b.toNat IntKind.i64.bits = b.toNat := by
    show min b.toNat 64 = _
    omega
  rw [e1, Nat.shiftRight_eq_div_pow]
  obtain ⟨n, rfl⟩ : ∃ n : Nat, a = n := ⟨a.toNat, by omega⟩
  congr 1
  rw [Int.fdiv_eq_ediv_of_nonneg _ (Int.le_of_lt (Int.pow_pos (by decide)))]
  simp
end

section
variable {P : Program} {o : Oper} {e : Env} {H H0 : Heap} {K : AV → Heap → Prop}
theorem setAll_all : ∀ (l cs pre : List AV), l.length = cs.length → setAll (pre ++ cs) pre.length l = pre ++ l
  | [], [], pre, _ => rfl
  | v :: l, c :: cs, pre, h => by
    simp only [setAll]
    have : (pre ++ c :: cs).set pre.length v = (pre ++ [v]) ++ cs := by rw [List.set_append_right _ _ (Nat.le_refl _)]; simp
    rw [this, show pre.length + 1 = (pre ++ [v]).length by simp, setAll_all l cs _ (by simpa using h)]
    simp
theorem opStoreNew {t b s : Nat} {x y : Operand} {v : AV} {cs : List AV} {n : Nat} (ho : o.op = .store t x y) (hs : sizeA P t = some s) (hx : ev e x = .ptr b 0) (hy : ev e y = v) (hH : H b = some ⟨0, cs, n, none⟩) (hcs : cs.length = s)
    (hv : v.told = true) (hl : (cells v).length = s) (h1 : (cells v).all AV.one = true) (h : K .undef (H.set b ⟨0, cells v, n, none⟩)) : Heavy P o e H K := by
  refine opStore ho hs hx hy hH (p := 0) rfl hv hl h1 (by show 0 + s ≤ cs.length; omega) ?_
  have := setAll_all (cells v) cs [] (by omega)
  simp only [List.nil_append, List.length_nil] at this
  rw [this]; exact h
end

/-- A variable in memory that nobody writes from here on. -/
theorem AWP.settle {P : Program} {n : Nat} {c : Code} {Q : Exit → Env → Heap → Prop} {e : Env} {H G : Heap} {b : Nat} {cs : List AV} {hi : Nat} (t : Nat) (ht : e t = .ptr b 0) (hb : G b = some ⟨0, cs, hi, none⟩) (hN : H b = none) (hk : ∀ c x, H c = some x → c ≠ b → G c = some x)
    (h : AWP P n c Q (upd e t (.rptr cs)) H) : AWP P n c Q e G := by
  refine AWP.freezePtr t ht hb (AWP.drop (fun c x hc => ?_) h)
  have hne : c ≠ b := fun k => by rw [k, hN] at hc; cases hc
  rw [Heap.del_ne _ hne]; exact hk c x hc hne

end Go.Proofs.Ythdoebgikbfndaa.E
