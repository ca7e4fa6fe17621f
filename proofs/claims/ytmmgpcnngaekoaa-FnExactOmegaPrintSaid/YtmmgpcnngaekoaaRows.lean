/-
  No cell of these rows narrows 'for every input' (looked for: loops, veiled, ifaces, maps, wideKeys, modest, calm, conditions, laid).
  DERIVED. THE GIVEN ROWS OF THIS SEAT. 4 by the template 'for every input the law returns true; each argument reads behind the call as it read before'; 0 by the template 'total and deterministic' (their statements: YtmmgpcnngaekoaaTotals.lean).
  GIVEN WITH THE SEED: the statements are not yours to turn. If you find one false, say at which input.
  Laid BY PROGRAM, IN A SANDBOX (cutbox-rows.mjs): the forced cells as the released guide's own fill.sh prints them over the translation c8ff89f132b8a2a6… (all of the seat's roots in one cut). By AI agents, Wed Nov 11 2026. No macro, syntax, notation, axiom, sorry.
-/
import Derived.Test.YtmmgpcnngaekoaaChecked
import GoSem.Claim
import GoSem.ClaimJoined
import GoSem.ClaimMapViews
import Derived.JoinedTies
import Derived.KernelRfl
namespace Go.Proofs.Ytmmgpcnngaekoaa
/- THE CELL 'sum', in the pinned program and in every row, IS THE sha256 OF THE DUMP (.gsa) THAT YtmmgpcnngaekoaaProg.lean LOADS. Nothing in Lean hashes anything: it is a label: what it is worth is what the hold of that sum in a sandbox is worth. -/
noncomputable def Try.pinned : Pinned := { name := "ytmmgpcnngaekoaa", sum := "c8ff89f132b8a2a6b47da4a1d5df66e69113de5edf4b960ba970b97a6f3aa21a", checked := Try.checked }
namespace Rows
def none {H : Type} : Left H := { results := [], args := [] }

/-- 'laws.FnReParts': WHATEVER THE INPUT: true; the input reads as it did. -/
def fnRePartsSpec : ChangeSpec := { name := "fnReParts", fn := fun _ => fun
  | [d] => { results := [.lit (.bool true)], args := [d] }
  | _ => none }
def fnRePartsRow : OpenClaim := { program := "ytmmgpcnngaekoaa", sum := "c8ff89f132b8a2a6b47da4a1d5df66e69113de5edf4b960ba970b97a6f3aa21a", func := "loop.example/g00102/laws.FnReParts", spec := "fnReParts", unfollowed := true, recurses := true, apart := false }
def FnRePartsSaid : Prop := fnRePartsRow.holds Try.pinned (OpenSpec.ofChange fnRePartsSpec)

/-- ITS FALSE NEIGHBOUR: 'it returns false'. Refute it at one input. -/
def fnRePartsWrong : ChangeSpec := { name := "fnReParts", fn := fun _ => fun
  | [d] => { results := [.lit (.bool false)], args := [d] }
  | _ => none }
def FnRePartsWrongFalsely : Prop := fnRePartsRow.holds Try.pinned (OpenSpec.ofChange fnRePartsWrong)

/-- 'laws.FnExactOmegaPrint': WHATEVER THE INPUT: true; the input reads as it did. -/
def fnExactOmegaPrintSpec : ChangeSpec := { name := "fnExactOmegaPrint", fn := fun _ => fun
  | [d] => { results := [.lit (.bool true)], args := [d] }
  | _ => none }
def fnExactOmegaPrintRow : OpenClaim := { program := "ytmmgpcnngaekoaa", sum := "c8ff89f132b8a2a6b47da4a1d5df66e69113de5edf4b960ba970b97a6f3aa21a", func := "loop.example/g00102/laws.FnExactOmegaPrint", spec := "fnExactOmegaPrint", inPlace := ["internal/abi.NoEscape", "internal/bytealg.MakeNoZero"], unfollowed := true, recurses := true, apart := false }
def FnExactOmegaPrintSaid : Prop := fnExactOmegaPrintRow.holds Try.pinned (OpenSpec.ofChange fnExactOmegaPrintSpec)

/-- ITS FALSE NEIGHBOUR: 'it returns false'. Refute it at one input. -/
def fnExactOmegaPrintWrong : ChangeSpec := { name := "fnExactOmegaPrint", fn := fun _ => fun
  | [d] => { results := [.lit (.bool false)], args := [d] }
  | _ => none }
def FnExactOmegaPrintWrongFalsely : Prop := fnExactOmegaPrintRow.holds Try.pinned (OpenSpec.ofChange fnExactOmegaPrintWrong)

/-- 'laws.FnReText': WHATEVER THE INPUT: true; the input reads as it did. -/
def fnReTextSpec : ChangeSpec := { name := "fnReText", fn := fun _ => fun
  | [d] => { results := [.lit (.bool true)], args := [d] }
  | _ => none }
def fnReTextRow : OpenClaim := { program := "ytmmgpcnngaekoaa", sum := "c8ff89f132b8a2a6b47da4a1d5df66e69113de5edf4b960ba970b97a6f3aa21a", func := "loop.example/g00102/laws.FnReText", spec := "fnReText", unfollowed := true, recurses := true, apart := false }
def FnReTextSaid : Prop := fnReTextRow.holds Try.pinned (OpenSpec.ofChange fnReTextSpec)

/-- ITS FALSE NEIGHBOUR: 'it returns false'. Refute it at one input. -/
def fnReTextWrong : ChangeSpec := { name := "fnReText", fn := fun _ => fun
  | [d] => { results := [.lit (.bool false)], args := [d] }
  | _ => none }
def FnReTextWrongFalsely : Prop := fnReTextRow.holds Try.pinned (OpenSpec.ofChange fnReTextWrong)

/-- 'laws.FnExprText': WHATEVER THE INPUT: true; the input reads as it did. -/
def fnExprTextSpec : ChangeSpec := { name := "fnExprText", fn := fun _ => fun
  | [d] => { results := [.lit (.bool true)], args := [d] }
  | _ => none }
def fnExprTextRow : OpenClaim := { program := "ytmmgpcnngaekoaa", sum := "c8ff89f132b8a2a6b47da4a1d5df66e69113de5edf4b960ba970b97a6f3aa21a", func := "loop.example/g00102/laws.FnExprText", spec := "fnExprText", unfollowed := true, recurses := true, apart := false }
def FnExprTextSaid : Prop := fnExprTextRow.holds Try.pinned (OpenSpec.ofChange fnExprTextSpec)

/-- ITS FALSE NEIGHBOUR: 'it returns false'. Refute it at one input. -/
def fnExprTextWrong : ChangeSpec := { name := "fnExprText", fn := fun _ => fun
  | [d] => { results := [.lit (.bool false)], args := [d] }
  | _ => none }
def FnExprTextWrongFalsely : Prop := fnExprTextRow.holds Try.pinned (OpenSpec.ofChange fnExprTextWrong)

/- THE SECOND FORM. 'bulk': how many values and letters a reading holds, each counted each time it is reached (what is shared counts as often as it is met; a slice's spare places count too). A statement '..UptoSaid' is the law's where the arguments, and the package variables that the reading takes, are together of bulk at most 1048576: NARROWER than '..Said'. Prove '..Said' where nothing that the law and all that it calls make is longer than what came in: it says more and counts as full. Else prove '..UptoSaid'. A law counts once. -/
mutual
def uptoBulk {H : Type} : DataW H → Nat
  | .lit (.string bytes) => bytes.length + 1
  | .lit _ => 1
  | .nil => 1
  | .ptr d => uptoBulk d + 1
  | .slice elems spare => uptoBulkAll elems + uptoBulkAll spare + 1
  | .agg parts => uptoBulkAll parts + 1
  | .iface _ d => uptoBulk d + 1
  | .map entries => uptoBulkEntries entries + 1
  | .held _ => 1
def uptoBulkAll {H : Type} : List (DataW H) → Nat
  | [] => 0
  | d :: r => uptoBulk d + uptoBulkAll r
def uptoBulkEntries {H : Type} : List (Lit × DataW H) → Nat
  | [] => 0
  | x :: r => uptoBulkEntry x + uptoBulkEntries r
def uptoBulkEntry {H : Type} : Lit × DataW H → Nat
  | (.string bytes, d) => bytes.length + uptoBulk d + 1
  | (_, d) => uptoBulk d + 1
 end
def uptoSmall : (H : Type) → List (DataW H) → Bool := fun _ ds => decide (uptoBulkAll ds ≤ 1048576)
def OpenSpec.upto (s : _root_.Go.ChangeSpec) : _root_.Go.OpenSpec := { _root_.Go.OpenSpec.ofChange s with cond := some uptoSmall }

/-- 'laws.FnReParts', WHERE WHAT IT READS IS OF BULK AT MOST 1048576: true; the input reads as it did. -/
def fnRePartsUptoRow : OpenClaim := { program := "ytmmgpcnngaekoaa", sum := "c8ff89f132b8a2a6b47da4a1d5df66e69113de5edf4b960ba970b97a6f3aa21a", func := "loop.example/g00102/laws.FnReParts", spec := "fnReParts", unfollowed := true, recurses := true, apart := false, narrowed := true }
def FnRePartsUptoSaid : Prop := fnRePartsUptoRow.holds Try.pinned (OpenSpec.upto fnRePartsSpec)

/-- 'laws.FnExactOmegaPrint', WHERE WHAT IT READS IS OF BULK AT MOST 1048576: true; the input reads as it did. -/
def fnExactOmegaPrintUptoRow : OpenClaim := { program := "ytmmgpcnngaekoaa", sum := "c8ff89f132b8a2a6b47da4a1d5df66e69113de5edf4b960ba970b97a6f3aa21a", func := "loop.example/g00102/laws.FnExactOmegaPrint", spec := "fnExactOmegaPrint", inPlace := ["internal/abi.NoEscape", "internal/bytealg.MakeNoZero"], unfollowed := true, recurses := true, apart := false, narrowed := true }
def FnExactOmegaPrintUptoSaid : Prop := fnExactOmegaPrintUptoRow.holds Try.pinned (OpenSpec.upto fnExactOmegaPrintSpec)

/-- 'laws.FnReText', WHERE WHAT IT READS IS OF BULK AT MOST 1048576: true; the input reads as it did. -/
def fnReTextUptoRow : OpenClaim := { program := "ytmmgpcnngaekoaa", sum := "c8ff89f132b8a2a6b47da4a1d5df66e69113de5edf4b960ba970b97a6f3aa21a", func := "loop.example/g00102/laws.FnReText", spec := "fnReText", unfollowed := true, recurses := true, apart := false, narrowed := true }
def FnReTextUptoSaid : Prop := fnReTextUptoRow.holds Try.pinned (OpenSpec.upto fnReTextSpec)

/-- 'laws.FnExprText', WHERE WHAT IT READS IS OF BULK AT MOST 1048576: true; the input reads as it did. -/
def fnExprTextUptoRow : OpenClaim := { program := "ytmmgpcnngaekoaa", sum := "c8ff89f132b8a2a6b47da4a1d5df66e69113de5edf4b960ba970b97a6f3aa21a", func := "loop.example/g00102/laws.FnExprText", spec := "fnExprText", unfollowed := true, recurses := true, apart := false, narrowed := true }
def FnExprTextUptoSaid : Prop := fnExprTextUptoRow.holds Try.pinned (OpenSpec.upto fnExprTextSpec)

end Rows
end Go.Proofs.Ytmmgpcnngaekoaa
