/- Structs of three whole numbers are compared. -/
import Derived.Test.YthdoebgikbfndaaF6
import Derived.Laws.StructEq
import Derived.Laws.Tables
import Derived.Laws.Cover2
import Derived.KernelRfl
namespace Go.Proofs.Ythdoebgikbfndaa.E
open Go Go.RowKit
set_option linter.unusedVariables false
section
variable {P : Program} {o : Oper} {e : Env} {H : Heap}
abbrev ag3 (a b c : Int) : Value := .agg #[.int .i64 a, .int .i64 b, .int .i64 c]
theorem agg3_inv {ι : Imm} {a b c : Int} {v : Value} (h : V ι (.agg [.int .i64 a, .int .i64 b, .int .i64 c]) v) : v = ag3 a b c := by
  cases h with
  | agg cs hl h =>
    have h0 := (h 0 (by simp)).int_inv
    have h1 := (h 1 (by simp)).int_inv
    have h2 := (h 2 (by simp)).int_inv
    obtain ⟨l⟩ := cs
    rcases l with _ | ⟨x, _ | ⟨y, _ | ⟨z, _ | _⟩⟩⟩ <;> simp at hl
    simp at h0 h1 h2
    subst h0 h1 h2
    rfl
theorem opAgg3Eq {op : BinOp} {xT yT : TypeId} {x y : Operand} {a b c a' b' c' : Int} {q : Bool} {v : AV} (ho : o.op = .binOp op xT x y yT) (hx : ev e x = .agg [.int .i64 a, .int .i64 b, .int .i64 c]) (hy : ev e y = .agg [.int .i64 a', .int .i64 b', .int .i64 c'])
    (hg : P.eqGuardType P.depth xT = false) (hq : ∀ w : World, (Op.equalIn 10000 xT (ag3 a b c) (ag3 a' b' c')).run P w = .ok q w)
    (hr : (match op with | .eql => some (AV.bool q) | .neq => some (.bool (!q)) | _ => none) = some v) : Light P o e H v [] :=
  Light.of_run fun ι ρ w hi hV => by
    have h1 := hV x (by simp [ho, Op.operands]); rw [hx] at h1
    have h2 := hV y (by simp [ho, Op.operands]); rw [hy] at h2
    cases op <;> simp only [reduceCtorEq, Option.some.injEq] at hr <;> subst hr
    · refine ⟨.bool q, ?_, .bool _⟩
      simp only [execOp, ho, agg3_inv h1, agg3_inv h2, Sem.run_bind, run_eqGuard_agg w _ _ _ _ _ _ hg, Result.andThen_ok, run_eql_struct, hq w, Sem.run_pure]
    · refine ⟨.bool (!q), ?_, .bool _⟩
      simp only [execOp, ho, agg3_inv h1, agg3_inv h2, Sem.run_bind, run_eqGuard_agg w _ _ _ _ _ _ hg, Result.andThen_ok, run_neq_struct, hq w, Sem.run_pure]
end
end Go.Proofs.Ythdoebgikbfndaa.E
