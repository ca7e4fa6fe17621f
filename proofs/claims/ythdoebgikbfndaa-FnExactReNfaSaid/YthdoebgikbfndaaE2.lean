/- What single operations do, told over our values. -/
import Derived.Test.YthdoebgikbfndaaE1
import Derived.Laws.Small
namespace Go.Proofs.Ythdoebgikbfndaa.E
open Go Go.RowKit
set_option linter.unusedVariables false

section light
variable {P : Program} {o : Oper} {e : Env} {H : Heap}

theorem opMove {x : Operand} {v : AV} (ho : o.op = .move x) (hx : ev e x = v) : Light P o e H v [] :=
  Light.of_run fun ι ρ w hi hv => ⟨ρ x, by simp [execOp, ho], by rw [← hx]; exact hv x (by simp [ho, Op.operands])⟩
theorem opAssign {x : Operand} {v : AV} (ho : o.op = .assign x) (hx : ev e x = v) : Light P o e H v [] :=
  Light.of_run fun ι ρ w hi hv => ⟨ρ x, by simp [execOp, ho], by rw [← hx]; exact hv x (by simp [ho, Op.operands])⟩

theorem opPick {c x y : Operand} {b : Bool} {v : AV} (ho : o.op = .pick c x y) (hc : ev e c = .bool b) (hv : (bif b then ev e x else ev e y) = v) : Light P o e H v [] :=
  Light.of_run fun ι ρ w hi hV => by
    have h1 := hV c (by simp [ho, Op.operands]); rw [hc] at h1
    refine ⟨if b then ρ x else ρ y, by simp [execOp, ho, h1.bool_inv, asBool], ?_⟩
    rw [← hv]
    cases b
    · exact hV y (by simp [ho, Op.operands])
    · exact hV x (by simp [ho, Op.operands])

/-- Both sides of an operation on whole numbers of one kind. -/
def intRes (op : BinOp) (k : IntKind) (a b : Int) : Option AV :=
  match op with
  | .add => some (.int k (k.wrap (a + b)))
  | .sub => some (.int k (k.wrap (a - b)))
  | .mul => some (.int k (k.wrap (a * b)))
  | .and => some (.int k (k.wrap (BitVec.ofInt k.bits a &&& BitVec.ofInt k.bits b).toNat))
  | .or => some (.int k (k.wrap (BitVec.ofInt k.bits a ||| BitVec.ofInt k.bits b).toNat))
  | .xor => some (.int k (k.wrap (BitVec.ofInt k.bits a ^^^ BitVec.ofInt k.bits b).toNat))
  | .andNot => some (.int k (k.wrap (BitVec.ofInt k.bits a &&& ~~~BitVec.ofInt k.bits b).toNat))
  | .eql => some (.bool (decide (a = b)))
  | .neq => some (.bool (decide (a ≠ b)))
  | .lss => some (.bool (decide (a < b)))
  | .leq => some (.bool (decide (a ≤ b)))
  | .gtr => some (.bool (decide (a > b)))
  | .geq => some (.bool (decide (a ≥ b)))
  | _ => none

theorem opInt {op : BinOp} {xT yT : TypeId} {x y : Operand} {k : IntKind} {a b : Int} {v : AV} (ho : o.op = .binOp op xT x y yT) (hx : ev e x = .int k a) (hy : ev e y = .int k b)
    (hr : intRes op k a b = some v) : Light P o e H v [] :=
  Light.of_run fun ι ρ w hi hV => by
    have h1 := hV x (by simp [ho, Op.operands]); rw [hx] at h1
    have h2 := hV y (by simp [ho, Op.operands]); rw [hy] at h2
    have e1 := h1.int_inv
    have e2 := h2.int_inv
    cases op <;> simp only [intRes, reduceCtorEq, Option.some.injEq] at hr <;> subst hr
    case andNot => exact ⟨.int k (k.wrap (BitVec.ofInt k.bits a &&& ~~~BitVec.ofInt k.bits b).toNat), by simp only [execOp, ho, e1, e2]; simp only [eqGuard, binOp, Op.intBits]; simp [-BitVec.toNat_and, -BitVec.toNat_not], .int _ _⟩
    case eql => exact ⟨.bool (decide (a = b)), by simp [execOp, ho, e1, e2, eqGuard, binOp, Op.intCmp]; rfl, .bool _⟩
    case neq => exact ⟨.bool (decide (a ≠ b)), by simp [execOp, ho, e1, e2, eqGuard, binOp, Op.intCmp, bne]; rfl, .bool _⟩
    all_goals (refine ⟨_, by simp [execOp, ho, e1, e2, eqGuard, binOp, Op.intArith, Op.intBits, Op.intCmp]; rfl, ?_⟩; constructor)

theorem opShl {xT yT : TypeId} {x y : Operand} {k k' : IntKind} {a b : Int} {v : AV} (ho : o.op = .binOp .shl xT x y yT) (hx : ev e x = .int k a) (hy : ev e y = .int k' b) (hb : 0 ≤ b)
    (hr : v = .int k (k.wrap (a * 2 ^ (min b.toNat k.bits)))) : Light P o e H v [] :=
  Light.of_run fun ι ρ w hi hV => by
    have h1 := hV x (by simp [ho, Op.operands]); rw [hx] at h1
    have h2 := hV y (by simp [ho, Op.operands]); rw [hy] at h2
    have hb' : ¬ b < 0 := by omega
    exact ⟨_, by simp [execOp, ho, h1.int_inv, h2.int_inv, eqGuard, binOp, Op.shift, hb']; rfl, by rw [hr]; constructor⟩
theorem opShr {xT yT : TypeId} {x y : Operand} {k k' : IntKind} {a b : Int} {v : AV} (ho : o.op = .binOp .shr xT x y yT) (hx : ev e x = .int k a) (hy : ev e y = .int k' b) (hb : 0 ≤ b)
    (hr : v = .int k (a.fdiv (2 ^ (min b.toNat k.bits)))) : Light P o e H v [] :=
  Light.of_run fun ι ρ w hi hV => by
    have h1 := hV x (by simp [ho, Op.operands]); rw [hx] at h1
    have h2 := hV y (by simp [ho, Op.operands]); rw [hy] at h2
    have hb' : ¬ b < 0 := by omega
    exact ⟨_, by simp [execOp, ho, h1.int_inv, h2.int_inv, eqGuard, binOp, Op.shift, hb']; rfl, by rw [hr]; constructor⟩
theorem opQuo {xT yT : TypeId} {x y : Operand} {k : IntKind} {a b : Int} {v : AV} (ho : o.op = .binOp .quo xT x y yT) (hx : ev e x = .int k a) (hy : ev e y = .int k b) (hb : b ≠ 0)
    (hr : v = .int k (k.wrap (a.tdiv b))) : Light P o e H v [] :=
  Light.of_run fun ι ρ w hi hV => by
    have h1 := hV x (by simp [ho, Op.operands]); rw [hx] at h1
    have h2 := hV y (by simp [ho, Op.operands]); rw [hy] at h2
    exact ⟨_, by simp [execOp, ho, h1.int_inv, h2.int_inv, eqGuard, binOp, Op.intDiv, hb]; rfl, by rw [hr]; constructor⟩
theorem opRem {xT yT : TypeId} {x y : Operand} {k : IntKind} {a b : Int} {v : AV} (ho : o.op = .binOp .rem xT x y yT) (hx : ev e x = .int k a) (hy : ev e y = .int k b) (hb : b ≠ 0)
    (hr : v = .int k (a.tmod b)) : Light P o e H v [] :=
  Light.of_run fun ι ρ w hi hV => by
    have h1 := hV x (by simp [ho, Op.operands]); rw [hx] at h1
    have h2 := hV y (by simp [ho, Op.operands]); rw [hy] at h2
    exact ⟨_, by simp [execOp, ho, h1.int_inv, h2.int_inv, eqGuard, binOp, Op.intDiv, hb]; rfl, by rw [hr]; constructor⟩

theorem opNot {t : TypeId} {x : Operand} {b : Bool} (ho : o.op = .unOp .not t x) (hx : ev e x = .bool b) : Light P o e H (.bool (!b)) [] :=
  Light.of_run fun ι ρ w hi hV => by
    have h1 := hV x (by simp [ho, Op.operands]); rw [hx] at h1
    exact ⟨_, by simp [execOp, ho, h1.bool_inv, Op.unary]; rfl, by constructor⟩
theorem opNeg {t : TypeId} {x : Operand} {k : IntKind} {a : Int} (ho : o.op = .unOp .neg t x) (hx : ev e x = .int k a) : Light P o e H (.int k (k.wrap (-a))) [] :=
  Light.of_run fun ι ρ w hi hV => by
    have h1 := hV x (by simp [ho, Op.operands]); rw [hx] at h1
    exact ⟨_, by simp [execOp, ho, h1.int_inv, Op.unary, Op.intArith]; rfl, by constructor⟩

theorem run_underlying {w : World} {t : TypeId} {d : TypeDesc} (h : P.underlying t = some d) : (underlying t).run P w = .ok d w := by simp [underlying, h]

theorem opConv {s d : TypeId} {x : Operand} {k k' : IntKind} {a : Int} {v : AV} (ho : o.op = .convert s d x) (hx : ev e x = .int k a) (hs : P.underlying s = some (.int k)) (hd : P.underlying d = some (.int k'))
    (hr : v = .int k' (k'.wrap a)) : Light P o e H v [] :=
  Light.of_run fun ι ρ w hi hV => by
    have h1 := hV x (by simp [ho, Op.operands]); rw [hx] at h1
    exact ⟨_, by simp [execOp, ho, h1.int_inv, convert, run_underlying hs, run_underlying hd, Conv.intToInt]; rfl, by rw [hr]; constructor⟩

/-- Bools held against each other. -/
theorem opBoolEq {op : BinOp} {xT yT : TypeId} {x y : Operand} {a b : Bool} {v : AV} (ho : o.op = .binOp op xT x y yT) (hx : ev e x = .bool a) (hy : ev e y = .bool b) (ht : P.underlying xT = some .bool)
    (hr : (match op with | .eql => some (AV.bool (a == b)) | .neq => some (.bool (!(a == b))) | _ => none) = some v) : Light P o e H v [] :=
  Light.of_run fun ι ρ w hi hV => by
    have h1 := hV x (by simp [ho, Op.operands]); rw [hx] at h1
    have h2 := hV y (by simp [ho, Op.operands]); rw [hy] at h2
    cases op <;> simp only [reduceCtorEq, Option.some.injEq] at hr <;> subst hr
    · exact ⟨.bool (a == b), by simp only [execOp, ho, h1.bool_inv, h2.bool_inv, eqGuard]; simp [run_eql_bool w xT a b ht], .bool _⟩
    · exact ⟨.bool (!(a == b)), by simp only [execOp, ho, h1.bool_inv, h2.bool_inv, eqGuard]; simp [run_neq_bool w xT a b ht], .bool _⟩

theorem opStr {op : BinOp} {xT yT : TypeId} {x y : Operand} {a b : ByteArray} {v : AV} (ho : o.op = .binOp op xT x y yT) (hx : ev e x = .str a) (hy : ev e y = .str b)
    (hr : (match op with | .eql => some (AV.bool (a.toList == b.toList)) | .neq => some (.bool (!(a.toList == b.toList))) | .add => if ((a.size + b.size : Nat) : Int) > IntKind.i64.max then none else some (.str (a ++ b)) | _ => none) = some v) : Light P o e H v [] :=
  Light.of_run fun ι ρ w hi hV => by
    have h1 := hV x (by simp [ho, Op.operands]); rw [hx] at h1
    have h2 := hV y (by simp [ho, Op.operands]); rw [hy] at h2
    cases op <;> simp only [reduceCtorEq, Option.some.injEq] at hr
    case add =>
      split at hr
      · exact absurd hr (by simp)
      · rename_i hn
        simp only [Option.some.injEq] at hr
        subst hr
        exact ⟨_, by simp only [execOp, ho, h1.str_inv, h2.str_inv, binOp, Op.stringOp]; rw [if_neg hn]; simp [eqGuard]; rfl, by constructor⟩
    all_goals (subst hr; refine ⟨_, by simp [execOp, ho, h1.str_inv, h2.str_inv, eqGuard, binOp, Op.stringOp]; rfl, ?_⟩; constructor)

theorem V.list_inv {ι : Imm} {s : Nat} {xs : List AV} {v : Value} (h : V ι (.list s xs) v) : (xs = [] ∧ ∃ a c, v = .slice a 0 c) ∨
    ∃ (b o cap : Nat) (vs : Nat → Value), v = .slice (some ⟨b, o, none⟩) xs.length cap ∧ (∀ x ∈ xs, (cells x).length = s) ∧ xs.length ≤ cap ∧
      (∀ p, p < (flat xs).length → ι b (o + p) = some (vs p)) ∧ ∀ p (h : p < (flat xs).length), V ι ((flat xs)[p]) (vs p) := by
  cases h with
  | listNil => exact .inl ⟨rfl, _, _, rfl⟩
  | list vs hs hc h1 h2 => exact .inr ⟨_, _, _, vs, rfl, hs, hc, h1, h2⟩

theorem V.rptr_inv {ι : Imm} {xs : List AV} {v : Value} (h : V ι (.rptr xs) v) : ∃ (b o : Nat) (vs : Nat → Value), v = .pointer (some ⟨b, o, none⟩) ∧
    (∀ p, p < xs.length → ι b (o + p) = some (vs p)) ∧ ∀ p (h : p < xs.length), V ι (xs[p]) (vs p) := by
  cases h with
  | rptr vs h1 h2 => exact ⟨_, _, vs, rfl, h1, h2⟩

theorem V.agg_inv {ι : Imm} {xs : List AV} {v : Value} (h : V ι (.agg xs) v) : ∃ cs : Array Value, v = .agg cs ∧ cs.size = xs.length ∧ ∀ p (h : p < xs.length), V ι (xs[p]) (cs.getD p Go.undef) := by
  cases h with
  | agg cs hl h => exact ⟨cs, rfl, hl, h⟩
theorem V.tup_inv {ι : Imm} {xs : List AV} {v : Value} (h : V ι (.tup xs) v) : ∃ cs : Array Value, v = .tuple cs ∧ cs.size = xs.length ∧ ∀ p (h : p < xs.length), V ι (xs[p]) (cs.getD p Go.undef) := by
  cases h with
  | tup cs hl h => exact ⟨cs, rfl, hl, h⟩
theorem V.fn_inv {ι : Imm} {f : Fn} {xs ys : List AV} {v : Value} (h : V ι (.fn f xs ys) v) : ∃ cs ds : Array Value, v = .func f cs ds ∧ cs.size = xs.length ∧ ds.size = ys.length ∧
    (∀ p (h : p < xs.length), V ι (xs[p]) (cs.getD p Go.undef)) ∧ ∀ p (h : p < ys.length), V ι (ys[p]) (ds.getD p Go.undef) := by
  cases h with
  | fn cs ds hl hm h k => exact ⟨cs, ds, rfl, hl, hm, h, k⟩

def lenA : AV → Option Nat
  | .nil => some 0
  | .list _ xs => some xs.length
  | .slc _ _ n _ => some n
  | .str s => some s.size
  | _ => none

theorem opLen {as : Array Operand} {ts : Array TypeId} {x : Operand} {t : TypeId} {n : Nat} {v : AV} (ho : o.op = .call ⟨.builtin .len, as, ts⟩) (ha : as = #[x]) (ht : ts = #[t])
    (hu : (match P.underlying t with | some .string => true | some (.slice _) => true | _ => false) = true) (hs : (match P.underlying t with | some .string => true | _ => false) = (match ev e x with | .str _ => true | _ => false))
    (hn : lenA (ev e x) = some n) (hv : v = .int .i64 n) : Light P o e H v [] :=
  Light.of_run fun ι ρ w hi hV => by
    subst ha ht
    have h1 := hV x (by simp [ho, Op.operands, Call.operands])
    cases hd : P.underlying t with
    | none => rw [hd] at hu; simp at hu
    | some d =>
      rw [hd] at hu hs
      have hru := run_underlying (w := w) hd
      rw [hv]
      cases hx : ev e x with
      | str s =>
        rw [hx] at h1 hn hs
        simp only [lenA, Option.some.injEq] at hn
        subst hn
        cases d <;> simp at hs
        exact ⟨_, by simp [execOp, ho, resolve, invoke, builtin, Builtin.len_, h1.str_inv, hru, goInt]; rfl, by constructor⟩
      | nil =>
        rw [hx] at h1 hn hs
        simp only [lenA, Option.some.injEq] at hn
        subst hn
        cases d <;> simp at hs hu
        exact ⟨_, by simp [execOp, ho, resolve, invoke, builtin, Builtin.len_, h1.nil_inv, hru, goInt]; rfl, by constructor⟩
      | slc b q l c =>
        rw [hx] at h1 hn hs
        simp only [lenA, Option.some.injEq] at hn
        subst hn
        cases d <;> simp at hs hu
        exact ⟨_, by simp [execOp, ho, resolve, invoke, builtin, Builtin.len_, h1.slc_inv, hru, goInt]; rfl, by constructor⟩
      | list s xs =>
        rw [hx] at h1 hn hs
        simp only [lenA, Option.some.injEq] at hn
        subst hn
        cases d <;> simp at hs hu
        rcases h1.list_inv with ⟨rfl, _, _, h⟩ | ⟨b, q, cap, vs, h, _⟩
        · exact ⟨_, by simp [execOp, ho, resolve, invoke, builtin, Builtin.len_, h, hru, goInt]; rfl, by constructor⟩
        · exact ⟨_, by simp [execOp, ho, resolve, invoke, builtin, Builtin.len_, h, hru, goInt]; rfl, by constructor⟩
      | _ => rw [hx] at hn; simp [lenA] at hn

theorem opNil {x : Operand} {v : AV} (ho : o.op = .nilCheck x) (hx : ev e x = v) (hv : (match v with | .ptr _ _ => true | .rptr _ => true | _ => false) = true) : Light P o e H v [] :=
  Light.of_run fun ι ρ w hi hV => by
    have h1 := hV x (by simp [ho, Op.operands]); rw [hx] at h1
    cases v <;> simp at hv
    case ptr b q => exact ⟨_, by simp [execOp, ho, h1.ptr_inv]; rfl, by constructor⟩
    case rptr xs =>
      obtain ⟨b, q, vs, h, _⟩ := h1.rptr_inv
      exact ⟨_, by simp [execOp, ho, h]; rfl, by rw [← h]; exact h1⟩

theorem getD_lt {α : Type} (a : Array α) (p : Nat) (h : p < a.size) (d : α) : a.getD p d = a[p] := by simp [Array.getD, h]

theorem opExtract {x : Operand} {i : Nat} {xs : List AV} {v : AV} (ho : o.op = .extract x i) (hx : ev e x = .tup xs) (hv : xs[i]? = some v) : Light P o e H v [] :=
  Light.of_run fun ι ρ w hi hV => by
    have h1 := hV x (by simp [ho, Op.operands]); rw [hx] at h1
    obtain ⟨cs, h, hl, hc⟩ := h1.tup_inv
    obtain ⟨hp, hq⟩ := List.getElem?_eq_some_iff.mp hv
    have hp' : i < cs.size := by omega
    refine ⟨cs[i], by simp [execOp, ho, h, Instr.extract, hp'], ?_⟩
    have := hc i hp
    rw [getD_lt _ _ hp', hq] at this
    exact this

theorem opFunc {fn : Fn} {first caps : Array Operand} {v : AV} (ho : o.op = .makeFunc fn first caps) (hv : v = .fn fn (first.toList.map (ev e)) (caps.toList.map (ev e))) : Light P o e H v [] :=
  Light.of_run fun ι ρ w hi hV => by
    rw [hv]
    refine ⟨.func fn (first.map ρ) (caps.map ρ), by simp [execOp, ho, Instr.makeFunc], ?_⟩
    refine .fn _ _ (by simp) (by simp) (fun p hp => ?_) (fun p hp => ?_)
    · have hp' : p < first.size := by simpa using hp
      rw [getD_lt _ _ (by simpa using hp')]
      simp only [List.getElem_map, Array.getElem_toList, Array.getElem_map]
      exact hV _ (by simp [ho, Op.operands, Array.getElem_mem])
    · have hp' : p < caps.size := by simpa using hp
      rw [getD_lt _ _ (by simpa using hp')]
      simp only [List.getElem_map, Array.getElem_toList, Array.getElem_map]
      exact hV _ (by simp [ho, Op.operands, Array.getElem_mem])

end light
end Go.Proofs.Ythdoebgikbfndaa.E
