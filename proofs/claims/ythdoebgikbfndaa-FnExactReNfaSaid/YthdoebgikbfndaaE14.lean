/- Rows compared with nil. -/
import Derived.Test.YthdoebgikbfndaaE13
import Derived.WalkSpells
namespace Go.Proofs.Ythdoebgikbfndaa.E
open Go Go.RowKit
set_option linter.unusedVariables false
section
variable {P : Program} {o : Oper} {e : Env} {H : Heap} {K : AV → Heap → Prop}
/-- A list with something in it is not nil. -/
theorem opIsNil {op : BinOp} {xT yT el s : Nat} {x y : Operand} {xs : List AV} {v : AV} (ho : o.op = .binOp op xT x y yT) (ht : P.underlying xT = some (.slice el)) (hx : ev e x = .list s xs) (hy : ev e y = .nil) (hn : xs ≠ [])
    (hr : (match op with | .eql => some (AV.bool false) | .neq => some (AV.bool true) | _ => none) = some v) : Light P o e H v [] :=
  Light.of_run fun ι ρ w hi hV => by
    have h1 := hV x (by simp [ho, Op.operands]); rw [hx] at h1
    have h2 := hV y (by simp [ho, Op.operands]); rw [hy] at h2
    rcases h1.list_inv with ⟨k, _⟩ | ⟨b, q, cap, vs, h1, _⟩
    · exact absurd k hn
    · cases op <;> simp only [reduceCtorEq, Option.some.injEq] at hr <;> subst hr
      · exact ⟨.bool false, by simp only [execOp, ho, h1, h2.nil_inv, eqGuard]; simp [Lib.run_eql_slice_nil w xT el _ _ _ _ _ ht], .bool _⟩
      · exact ⟨.bool true, by simp only [execOp, ho, h1, h2.nil_inv, eqGuard]; simp [run_neq_slice_nil_any w xT el _ _ _ _ _ ht], .bool _⟩
end
end Go.Proofs.Ythdoebgikbfndaa.E
