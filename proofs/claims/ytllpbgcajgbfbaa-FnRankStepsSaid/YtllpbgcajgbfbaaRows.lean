/-
  No cell of these rows narrows 'for every input' (looked for: loops, veiled, ifaces, maps, wideKeys, modest, calm, conditions, laid).
  DERIVED. THE GIVEN ROWS OF THIS SEAT. 3 by the template 'for every input the law returns true; each argument reads behind the call as it read before'; 0 by the template 'total and deterministic' (their statements: YtllpbgcajgbfbaaTotals.lean).
  GIVEN WITH THE SEED: the statements are not yours to turn. If you find one false, say at which input.
  Laid BY PROGRAM, IN A SANDBOX (cutbox-rows.mjs): the forced cells as the released guide's own fill.sh prints them over the translation 1b042d0260fbc675… (all of the seat's roots in one cut). By AI agents, Wed Nov 11 2026. No macro, syntax, notation, axiom, sorry.
-/
import Derived.Test.YtllpbgcajgbfbaaChecked
import GoSem.Claim
import GoSem.ClaimJoined
import GoSem.ClaimMapViews
import Derived.JoinedTies
import Derived.KernelRfl
namespace Go.Proofs.Ytllpbgcajgbfbaa
/- THE CELL 'sum', in the pinned program and in every row, IS THE sha256 OF THE DUMP (.gsa) THAT YtllpbgcajgbfbaaProg.lean LOADS. Nothing in Lean hashes anything: it is a label: what it is worth is what the hold of that sum in a sandbox is worth. -/
noncomputable def Try.pinned : Pinned := { name := "ytllpbgcajgbfbaa", sum := "1b042d0260fbc675923bd932acfe3453307a19bfa5a27f42b941c4573af80556", checked := Try.checked }
namespace Rows
def none {H : Type} : Left H := { results := [], args := [] }

/-- 'laws.FnExactRankStart': WHATEVER THE INPUT: true; the input reads as it did. -/
def fnExactRankStartSpec : ChangeSpec := { name := "fnExactRankStart", fn := fun _ => fun
  | [d] => { results := [.lit (.bool true)], args := [d] }
  | _ => none }
def fnExactRankStartRow : OpenClaim := { program := "ytllpbgcajgbfbaa", sum := "1b042d0260fbc675923bd932acfe3453307a19bfa5a27f42b941c4573af80556", func := "loop.example/g00102/laws.FnExactRankStart", spec := "fnExactRankStart", apart := false }
def FnExactRankStartSaid : Prop := fnExactRankStartRow.holds Try.pinned (OpenSpec.ofChange fnExactRankStartSpec)

/-- ITS FALSE NEIGHBOUR: 'it returns false'. Refute it at one input. -/
def fnExactRankStartWrong : ChangeSpec := { name := "fnExactRankStart", fn := fun _ => fun
  | [d] => { results := [.lit (.bool false)], args := [d] }
  | _ => none }
def FnExactRankStartWrongFalsely : Prop := fnExactRankStartRow.holds Try.pinned (OpenSpec.ofChange fnExactRankStartWrong)

/-- 'laws.FnRankSteps': WHATEVER THE INPUT: true; the input reads as it did. -/
def fnRankStepsSpec : ChangeSpec := { name := "fnRankSteps", fn := fun _ => fun
  | [d] => { results := [.lit (.bool true)], args := [d] }
  | _ => none }
def fnRankStepsRow : OpenClaim := { program := "ytllpbgcajgbfbaa", sum := "1b042d0260fbc675923bd932acfe3453307a19bfa5a27f42b941c4573af80556", func := "loop.example/g00102/laws.FnRankSteps", spec := "fnRankSteps", apart := false }
def FnRankStepsSaid : Prop := fnRankStepsRow.holds Try.pinned (OpenSpec.ofChange fnRankStepsSpec)

/-- ITS FALSE NEIGHBOUR: 'it returns false'. Refute it at one input. -/
def fnRankStepsWrong : ChangeSpec := { name := "fnRankSteps", fn := fun _ => fun
  | [d] => { results := [.lit (.bool false)], args := [d] }
  | _ => none }
def FnRankStepsWrongFalsely : Prop := fnRankStepsRow.holds Try.pinned (OpenSpec.ofChange fnRankStepsWrong)

/-- 'laws.FnExactRankNext': WHATEVER THE INPUT: true; the input reads as it did. -/
def fnExactRankNextSpec : ChangeSpec := { name := "fnExactRankNext", fn := fun _ => fun
  | [d1, d2, d3] => { results := [.lit (.bool true)], args := [d1, d2, d3] }
  | _ => none }
def fnExactRankNextRow : OpenClaim := { program := "ytllpbgcajgbfbaa", sum := "1b042d0260fbc675923bd932acfe3453307a19bfa5a27f42b941c4573af80556", func := "loop.example/g00102/laws.FnExactRankNext", spec := "fnExactRankNext", apart := false }
def FnExactRankNextSaid : Prop := fnExactRankNextRow.holds Try.pinned (OpenSpec.ofChange fnExactRankNextSpec)

/-- ITS FALSE NEIGHBOUR: 'it returns false'. Refute it at one input. -/
def fnExactRankNextWrong : ChangeSpec := { name := "fnExactRankNext", fn := fun _ => fun
  | [d1, d2, d3] => { results := [.lit (.bool false)], args := [d1, d2, d3] }
  | _ => none }
def FnExactRankNextWrongFalsely : Prop := fnExactRankNextRow.holds Try.pinned (OpenSpec.ofChange fnExactRankNextWrong)

/- THE SECOND FORM. 'bulk': how many values and letters a reading holds, each counted each time it is reached (what is shared counts as often as it is met; a slice's spare places count too). A statement '..UptoSaid' is the law's where the arguments, and the package variables that the reading takes, are together of bulk at most 1048576: NARROWER than '..Said'. Prove '..Said' where nothing that the law and all that it calls make is longer than what came in: it says more and counts as full. Else prove '..UptoSaid'. A law counts once. -/
mutual
def uptoBulk {H : Type} : DataW H → Nat
  | .lit (.string bytes) => bytes.length + 1
  | .lit _ => 1
  | .nil => 1
  | .ptr d => uptoBulk d + 1
  | .slice elems spare => uptoBulkAll elems + uptoBulkAll spare + 1
  | .agg parts => uptoBulkAll parts + 1
  | .iface _ d => uptoBulk d + 1
  | .map entries => uptoBulkEntries entries + 1
  | .held _ => 1
def uptoBulkAll {H : Type} : List (DataW H) → Nat
  | [] => 0
  | d :: r => uptoBulk d + uptoBulkAll r
def uptoBulkEntries {H : Type} : List (Lit × DataW H) → Nat
  | [] => 0
  | x :: r => uptoBulkEntry x + uptoBulkEntries r
def uptoBulkEntry {H : Type} : Lit × DataW H → Nat
  | (.string bytes, d) => bytes.length + uptoBulk d + 1
  | (_, d) => uptoBulk d + 1
 end
def uptoSmall : (H : Type) → List (DataW H) → Bool := fun _ ds => decide (uptoBulkAll ds ≤ 1048576)
def OpenSpec.upto (s : _root_.Go.ChangeSpec) : _root_.Go.OpenSpec := { _root_.Go.OpenSpec.ofChange s with cond := some uptoSmall }

/-- 'laws.FnExactRankStart', WHERE WHAT IT READS IS OF BULK AT MOST 1048576: true; the input reads as it did. -/
def fnExactRankStartUptoRow : OpenClaim := { program := "ytllpbgcajgbfbaa", sum := "1b042d0260fbc675923bd932acfe3453307a19bfa5a27f42b941c4573af80556", func := "loop.example/g00102/laws.FnExactRankStart", spec := "fnExactRankStart", apart := false, narrowed := true }
def FnExactRankStartUptoSaid : Prop := fnExactRankStartUptoRow.holds Try.pinned (OpenSpec.upto fnExactRankStartSpec)

/-- 'laws.FnRankSteps', WHERE WHAT IT READS IS OF BULK AT MOST 1048576: true; the input reads as it did. -/
def fnRankStepsUptoRow : OpenClaim := { program := "ytllpbgcajgbfbaa", sum := "1b042d0260fbc675923bd932acfe3453307a19bfa5a27f42b941c4573af80556", func := "loop.example/g00102/laws.FnRankSteps", spec := "fnRankSteps", apart := false, narrowed := true }
def FnRankStepsUptoSaid : Prop := fnRankStepsUptoRow.holds Try.pinned (OpenSpec.upto fnRankStepsSpec)

/-- 'laws.FnExactRankNext', WHERE WHAT IT READS IS OF BULK AT MOST 1048576: true; the input reads as it did. -/
def fnExactRankNextUptoRow : OpenClaim := { program := "ytllpbgcajgbfbaa", sum := "1b042d0260fbc675923bd932acfe3453307a19bfa5a27f42b941c4573af80556", func := "loop.example/g00102/laws.FnExactRankNext", spec := "fnExactRankNext", apart := false, narrowed := true }
def FnExactRankNextUptoSaid : Prop := fnExactRankNextUptoRow.holds Try.pinned (OpenSpec.upto fnExactRankNextSpec)

end Rows
end Go.Proofs.Ytllpbgcajgbfbaa
