/- Rows of rows that grow, are measured, and get back what was lent. -/
import Derived.Test.YthdoebgikbfndaaF5
namespace Go.Proofs.Ythdoebgikbfndaa.E
open Go Go.RowKit
set_option linter.unusedVariables false
section
variable {P : Program} {o : Oper} {e : Env} {H : Heap} {K : AV → Heap → Prop}
end
section
variable {P : Program} {n : Nat} {o : Oper} {e : Env} {H : Heap} {K : AV → Heap → Prop}
/-- A told list held against nil: with something in it it is not nil; else one cannot tell. -/
theorem opNilT {xT yT el s : Nat} {x y : Operand} {xs : List AV} (ho : o.op = .binOp .eql xT x y yT) (ht : P.underlying xT = some (.slice el)) (hx : ev e x = .list s xs) (hy : ev e y = .nil) (h : ∀ b, (b = true → xs = []) → K (.bool b) H) : Heavy P o e H K := by
  intro e' he B ι a w m hr hE next Q hk
  have h1 : V ι (.list s xs) (a.eval x) := by rw [← hx, ← he x (by simp [ho, Op.operands])]; exact hE.ev x
  have h2 : V ι .nil (a.eval y) := by rw [← hy, ← he y (by simp [ho, Op.operands])]; exact hE.ev y
  unfold Oper.wp
  rcases h1.list_inv with ⟨hn, a', c, hv⟩ | ⟨b, q, cap, vs, hv, _⟩
  · have hr1 : (execOp a.eval o).run P w = .ok (.value (.bool a'.isNone)) w := by
      simp only [execOp, ho, hv, h2.nil_inv, eqGuard]; simp [Lib.run_eql_slice_nil w xT el _ _ _ _ _ ht]
    rw [hr1]
    exact hk _ _ w ι H (h _ fun _ => hn) (.bool _) (Imm.le_refl _) hr
  · have hr1 : (execOp a.eval o).run P w = .ok (.value (.bool false)) w := by
      simp only [execOp, ho, hv, h2.nil_inv, eqGuard]; simp [Lib.run_eql_slice_nil w xT el _ _ _ _ _ ht]
    rw [hr1]
    exact hk _ _ w ι H (h false (by simp)) (.bool _) (Imm.le_refl _) hr
theorem AWP.ifN {c : Operand} {x y : Code} {Q : Exit → Env → Heap → Prop} {b : Bool} {p : Prop} [Decidable p] {α : Type} {A B : α} {r : α} (hF : (if p then A else B) = r) (he : ev e c = .bool b) (hb : b = true → p) (hAB : p → A = r → B = r) (t : A = r → AWP P n x Q e H) (f : B = r → AWP P n y Q e H) : AWP P n (.cond c x y) Q e H := by
  cases b with
  | true => exact AWP.condT he (t (by rw [if_pos (hb rfl)] at hF; exact hF))
  | false =>
    refine AWP.condF he (f ?_)
    by_cases h : p
    · rw [if_pos h] at hF; exact hAB h hF
    · rw [if_neg h] at hF; exact hF
end
section
variable {P : Program} {o : Oper} {e : Env} {H : Heap}
end
end Go.Proofs.Ythdoebgikbfndaa.E
