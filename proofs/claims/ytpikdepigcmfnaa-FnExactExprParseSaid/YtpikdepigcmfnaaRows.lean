/-
  No cell of these rows narrows 'for every input' (looked for: loops, veiled, ifaces, maps, wideKeys, modest, calm, conditions, laid).
  DERIVED. THE GIVEN ROWS OF THIS SEAT. 12 by the template 'for every input the law returns true; each argument reads behind the call as it read before'; 0 by the template 'total and deterministic' (their statements: YtpikdepigcmfnaaTotals.lean).
  GIVEN WITH THE SEED: the statements are not yours to turn. If you find one false, say at which input.
  Laid BY PROGRAM, IN A SANDBOX (cutbox-rows.mjs): the forced cells as the released guide's own fill.sh prints them over the translation 548d98f7927c98f8… (all of the seat's roots in one cut). By AI agents, Wed Nov 11 2026. No macro, syntax, notation, axiom, sorry.
-/
import Derived.Test.YtpikdepigcmfnaaChecked
import GoSem.Claim
import GoSem.ClaimJoined
import GoSem.ClaimMapViews
import Derived.JoinedTies
import Derived.KernelRfl
namespace Go.Proofs.Ytpikdepigcmfnaa
/- THE CELL 'sum', in the pinned program and in every row, IS THE sha256 OF THE DUMP (.gsa) THAT YtpikdepigcmfnaaProg.lean LOADS. Nothing in Lean hashes anything: it is a label: what it is worth is what the hold of that sum in a sandbox is worth. -/
noncomputable def Try.pinned : Pinned := { name := "ytpikdepigcmfnaa", sum := "548d98f7927c98f8df71d4e8da059aac8ebd49e6fe754aa4d4b4f3b5bd46b785", checked := Try.checked }
namespace Rows
def none {H : Type} : Left H := { results := [], args := [] }

/-- 'laws.FnExactReOk': WHATEVER THE INPUT: true; the input reads as it did. -/
def fnExactReOkSpec : ChangeSpec := { name := "fnExactReOk", fn := fun _ => fun
  | [d] => { results := [.lit (.bool true)], args := [d] }
  | _ => none }
def fnExactReOkRow : OpenClaim := { program := "ytpikdepigcmfnaa", sum := "548d98f7927c98f8df71d4e8da059aac8ebd49e6fe754aa4d4b4f3b5bd46b785", func := "loop.example/g00102/laws.FnExactReOk", spec := "fnExactReOk", unfollowed := true, recurses := true, apart := false }
def FnExactReOkSaid : Prop := fnExactReOkRow.holds Try.pinned (OpenSpec.ofChange fnExactReOkSpec)

/-- ITS FALSE NEIGHBOUR: 'it returns false'. Refute it at one input. -/
def fnExactReOkWrong : ChangeSpec := { name := "fnExactReOk", fn := fun _ => fun
  | [d] => { results := [.lit (.bool false)], args := [d] }
  | _ => none }
def FnExactReOkWrongFalsely : Prop := fnExactReOkRow.holds Try.pinned (OpenSpec.ofChange fnExactReOkWrong)

/-- 'laws.FnExactRePrint': WHATEVER THE INPUT: true; the input reads as it did. -/
def fnExactRePrintSpec : ChangeSpec := { name := "fnExactRePrint", fn := fun _ => fun
  | [d] => { results := [.lit (.bool true)], args := [d] }
  | _ => none }
def fnExactRePrintRow : OpenClaim := { program := "ytpikdepigcmfnaa", sum := "548d98f7927c98f8df71d4e8da059aac8ebd49e6fe754aa4d4b4f3b5bd46b785", func := "loop.example/g00102/laws.FnExactRePrint", spec := "fnExactRePrint", unfollowed := true, recurses := true, apart := false }
def FnExactRePrintSaid : Prop := fnExactRePrintRow.holds Try.pinned (OpenSpec.ofChange fnExactRePrintSpec)

/-- ITS FALSE NEIGHBOUR: 'it returns false'. Refute it at one input. -/
def fnExactRePrintWrong : ChangeSpec := { name := "fnExactRePrint", fn := fun _ => fun
  | [d] => { results := [.lit (.bool false)], args := [d] }
  | _ => none }
def FnExactRePrintWrongFalsely : Prop := fnExactRePrintRow.holds Try.pinned (OpenSpec.ofChange fnExactRePrintWrong)

/-- 'laws.FnExactReNull': WHATEVER THE INPUT: true; the input reads as it did. -/
def fnExactReNullSpec : ChangeSpec := { name := "fnExactReNull", fn := fun _ => fun
  | [d] => { results := [.lit (.bool true)], args := [d] }
  | _ => none }
def fnExactReNullRow : OpenClaim := { program := "ytpikdepigcmfnaa", sum := "548d98f7927c98f8df71d4e8da059aac8ebd49e6fe754aa4d4b4f3b5bd46b785", func := "loop.example/g00102/laws.FnExactReNull", spec := "fnExactReNull", unfollowed := true, recurses := true, apart := false }
def FnExactReNullSaid : Prop := fnExactReNullRow.holds Try.pinned (OpenSpec.ofChange fnExactReNullSpec)

/-- ITS FALSE NEIGHBOUR: 'it returns false'. Refute it at one input. -/
def fnExactReNullWrong : ChangeSpec := { name := "fnExactReNull", fn := fun _ => fun
  | [d] => { results := [.lit (.bool false)], args := [d] }
  | _ => none }
def FnExactReNullWrongFalsely : Prop := fnExactReNullRow.holds Try.pinned (OpenSpec.ofChange fnExactReNullWrong)

/-- 'laws.FnExactReParse': WHATEVER THE INPUT: true; the input reads as it did. -/
def fnExactReParseSpec : ChangeSpec := { name := "fnExactReParse", fn := fun _ => fun
  | [d] => { results := [.lit (.bool true)], args := [d] }
  | _ => none }
def fnExactReParseRow : OpenClaim := { program := "ytpikdepigcmfnaa", sum := "548d98f7927c98f8df71d4e8da059aac8ebd49e6fe754aa4d4b4f3b5bd46b785", func := "loop.example/g00102/laws.FnExactReParse", spec := "fnExactReParse", unfollowed := true, recurses := true, apart := false }
def FnExactReParseSaid : Prop := fnExactReParseRow.holds Try.pinned (OpenSpec.ofChange fnExactReParseSpec)

/-- ITS FALSE NEIGHBOUR: 'it returns false'. Refute it at one input. -/
def fnExactReParseWrong : ChangeSpec := { name := "fnExactReParse", fn := fun _ => fun
  | [d] => { results := [.lit (.bool false)], args := [d] }
  | _ => none }
def FnExactReParseWrongFalsely : Prop := fnExactReParseRow.holds Try.pinned (OpenSpec.ofChange fnExactReParseWrong)

/-- 'laws.FnExactReTakes': WHATEVER THE INPUT: true; the input reads as it did. -/
def fnExactReTakesSpec : ChangeSpec := { name := "fnExactReTakes", fn := fun _ => fun
  | [d1, d2] => { results := [.lit (.bool true)], args := [d1, d2] }
  | _ => none }
def fnExactReTakesRow : OpenClaim := { program := "ytpikdepigcmfnaa", sum := "548d98f7927c98f8df71d4e8da059aac8ebd49e6fe754aa4d4b4f3b5bd46b785", func := "loop.example/g00102/laws.FnExactReTakes", spec := "fnExactReTakes", unfollowed := true, recurses := true, apart := false }
def FnExactReTakesSaid : Prop := fnExactReTakesRow.holds Try.pinned (OpenSpec.ofChange fnExactReTakesSpec)

/-- ITS FALSE NEIGHBOUR: 'it returns false'. Refute it at one input. -/
def fnExactReTakesWrong : ChangeSpec := { name := "fnExactReTakes", fn := fun _ => fun
  | [d1, d2] => { results := [.lit (.bool false)], args := [d1, d2] }
  | _ => none }
def FnExactReTakesWrongFalsely : Prop := fnExactReTakesRow.holds Try.pinned (OpenSpec.ofChange fnExactReTakesWrong)

/-- 'laws.FnExactOmegaOk': WHATEVER THE INPUT: true; the input reads as it did. -/
def fnExactOmegaOkSpec : ChangeSpec := { name := "fnExactOmegaOk", fn := fun _ => fun
  | [d] => { results := [.lit (.bool true)], args := [d] }
  | _ => none }
def fnExactOmegaOkRow : OpenClaim := { program := "ytpikdepigcmfnaa", sum := "548d98f7927c98f8df71d4e8da059aac8ebd49e6fe754aa4d4b4f3b5bd46b785", func := "loop.example/g00102/laws.FnExactOmegaOk", spec := "fnExactOmegaOk", unfollowed := true, recurses := true, apart := false }
def FnExactOmegaOkSaid : Prop := fnExactOmegaOkRow.holds Try.pinned (OpenSpec.ofChange fnExactOmegaOkSpec)

/-- ITS FALSE NEIGHBOUR: 'it returns false'. Refute it at one input. -/
def fnExactOmegaOkWrong : ChangeSpec := { name := "fnExactOmegaOk", fn := fun _ => fun
  | [d] => { results := [.lit (.bool false)], args := [d] }
  | _ => none }
def FnExactOmegaOkWrongFalsely : Prop := fnExactOmegaOkRow.holds Try.pinned (OpenSpec.ofChange fnExactOmegaOkWrong)

/-- 'laws.FnExactOmegaPrint': WHATEVER THE INPUT: true; the input reads as it did. -/
def fnExactOmegaPrintSpec : ChangeSpec := { name := "fnExactOmegaPrint", fn := fun _ => fun
  | [d] => { results := [.lit (.bool true)], args := [d] }
  | _ => none }
def fnExactOmegaPrintRow : OpenClaim := { program := "ytpikdepigcmfnaa", sum := "548d98f7927c98f8df71d4e8da059aac8ebd49e6fe754aa4d4b4f3b5bd46b785", func := "loop.example/g00102/laws.FnExactOmegaPrint", spec := "fnExactOmegaPrint", inPlace := ["internal/abi.NoEscape", "internal/bytealg.MakeNoZero"], unfollowed := true, recurses := true, apart := false }
def FnExactOmegaPrintSaid : Prop := fnExactOmegaPrintRow.holds Try.pinned (OpenSpec.ofChange fnExactOmegaPrintSpec)

/-- ITS FALSE NEIGHBOUR: 'it returns false'. Refute it at one input. -/
def fnExactOmegaPrintWrong : ChangeSpec := { name := "fnExactOmegaPrint", fn := fun _ => fun
  | [d] => { results := [.lit (.bool false)], args := [d] }
  | _ => none }
def FnExactOmegaPrintWrongFalsely : Prop := fnExactOmegaPrintRow.holds Try.pinned (OpenSpec.ofChange fnExactOmegaPrintWrong)

/-- 'laws.FnExactExprParse': WHATEVER THE INPUT: true; the input reads as it did. -/
def fnExactExprParseSpec : ChangeSpec := { name := "fnExactExprParse", fn := fun _ => fun
  | [d] => { results := [.lit (.bool true)], args := [d] }
  | _ => none }
def fnExactExprParseRow : OpenClaim := { program := "ytpikdepigcmfnaa", sum := "548d98f7927c98f8df71d4e8da059aac8ebd49e6fe754aa4d4b4f3b5bd46b785", func := "loop.example/g00102/laws.FnExactExprParse", spec := "fnExactExprParse", unfollowed := true, recurses := true, apart := false }
def FnExactExprParseSaid : Prop := fnExactExprParseRow.holds Try.pinned (OpenSpec.ofChange fnExactExprParseSpec)

/-- ITS FALSE NEIGHBOUR: 'it returns false'. Refute it at one input. -/
def fnExactExprParseWrong : ChangeSpec := { name := "fnExactExprParse", fn := fun _ => fun
  | [d] => { results := [.lit (.bool false)], args := [d] }
  | _ => none }
def FnExactExprParseWrongFalsely : Prop := fnExactExprParseRow.holds Try.pinned (OpenSpec.ofChange fnExactExprParseWrong)

/-- 'laws.FnReText': WHATEVER THE INPUT: true; the input reads as it did. -/
def fnReTextSpec : ChangeSpec := { name := "fnReText", fn := fun _ => fun
  | [d] => { results := [.lit (.bool true)], args := [d] }
  | _ => none }
def fnReTextRow : OpenClaim := { program := "ytpikdepigcmfnaa", sum := "548d98f7927c98f8df71d4e8da059aac8ebd49e6fe754aa4d4b4f3b5bd46b785", func := "loop.example/g00102/laws.FnReText", spec := "fnReText", unfollowed := true, recurses := true, apart := false }
def FnReTextSaid : Prop := fnReTextRow.holds Try.pinned (OpenSpec.ofChange fnReTextSpec)

/-- ITS FALSE NEIGHBOUR: 'it returns false'. Refute it at one input. -/
def fnReTextWrong : ChangeSpec := { name := "fnReText", fn := fun _ => fun
  | [d] => { results := [.lit (.bool false)], args := [d] }
  | _ => none }
def FnReTextWrongFalsely : Prop := fnReTextRow.holds Try.pinned (OpenSpec.ofChange fnReTextWrong)

/-- 'laws.FnReParts': WHATEVER THE INPUT: true; the input reads as it did. -/
def fnRePartsSpec : ChangeSpec := { name := "fnReParts", fn := fun _ => fun
  | [d] => { results := [.lit (.bool true)], args := [d] }
  | _ => none }
def fnRePartsRow : OpenClaim := { program := "ytpikdepigcmfnaa", sum := "548d98f7927c98f8df71d4e8da059aac8ebd49e6fe754aa4d4b4f3b5bd46b785", func := "loop.example/g00102/laws.FnReParts", spec := "fnReParts", unfollowed := true, recurses := true, apart := false }
def FnRePartsSaid : Prop := fnRePartsRow.holds Try.pinned (OpenSpec.ofChange fnRePartsSpec)

/-- ITS FALSE NEIGHBOUR: 'it returns false'. Refute it at one input. -/
def fnRePartsWrong : ChangeSpec := { name := "fnReParts", fn := fun _ => fun
  | [d] => { results := [.lit (.bool false)], args := [d] }
  | _ => none }
def FnRePartsWrongFalsely : Prop := fnRePartsRow.holds Try.pinned (OpenSpec.ofChange fnRePartsWrong)

/-- 'laws.FnExprText': WHATEVER THE INPUT: true; the input reads as it did. -/
def fnExprTextSpec : ChangeSpec := { name := "fnExprText", fn := fun _ => fun
  | [d] => { results := [.lit (.bool true)], args := [d] }
  | _ => none }
def fnExprTextRow : OpenClaim := { program := "ytpikdepigcmfnaa", sum := "548d98f7927c98f8df71d4e8da059aac8ebd49e6fe754aa4d4b4f3b5bd46b785", func := "loop.example/g00102/laws.FnExprText", spec := "fnExprText", unfollowed := true, recurses := true, apart := false }
def FnExprTextSaid : Prop := fnExprTextRow.holds Try.pinned (OpenSpec.ofChange fnExprTextSpec)

/-- ITS FALSE NEIGHBOUR: 'it returns false'. Refute it at one input. -/
def fnExprTextWrong : ChangeSpec := { name := "fnExprText", fn := fun _ => fun
  | [d] => { results := [.lit (.bool false)], args := [d] }
  | _ => none }
def FnExprTextWrongFalsely : Prop := fnExprTextRow.holds Try.pinned (OpenSpec.ofChange fnExprTextWrong)

/-- 'laws.FnExactNfaTakes': WHATEVER THE INPUT: true; the input reads as it did. -/
def fnExactNfaTakesSpec : ChangeSpec := { name := "fnExactNfaTakes", fn := fun _ => fun
  | [d1, d2] => { results := [.lit (.bool true)], args := [d1, d2] }
  | _ => none }
def fnExactNfaTakesRow : OpenClaim := { program := "ytpikdepigcmfnaa", sum := "548d98f7927c98f8df71d4e8da059aac8ebd49e6fe754aa4d4b4f3b5bd46b785", func := "loop.example/g00102/laws.FnExactNfaTakes", spec := "fnExactNfaTakes", apart := false }
def FnExactNfaTakesSaid : Prop := fnExactNfaTakesRow.holds Try.pinned (OpenSpec.ofChange fnExactNfaTakesSpec)

/-- ITS FALSE NEIGHBOUR: 'it returns false'. Refute it at one input. -/
def fnExactNfaTakesWrong : ChangeSpec := { name := "fnExactNfaTakes", fn := fun _ => fun
  | [d1, d2] => { results := [.lit (.bool false)], args := [d1, d2] }
  | _ => none }
def FnExactNfaTakesWrongFalsely : Prop := fnExactNfaTakesRow.holds Try.pinned (OpenSpec.ofChange fnExactNfaTakesWrong)

/- THE SECOND FORM. 'bulk': how many values and letters a reading holds, each counted each time it is reached (what is shared counts as often as it is met; a slice's spare places count too). A statement '..UptoSaid' is the law's where the arguments, and the package variables that the reading takes, are together of bulk at most 1048576: NARROWER than '..Said'. Prove '..Said' where nothing that the law and all that it calls make is longer than what came in: it says more and counts as full. Else prove '..UptoSaid'. A law counts once. -/
mutual
def uptoBulk {H : Type} : DataW H → Nat
  | .lit (.string bytes) => bytes.length + 1
  | .lit _ => 1
  | .nil => 1
  | .ptr d => uptoBulk d + 1
  | .slice elems spare => uptoBulkAll elems + uptoBulkAll spare + 1
  | .agg parts => uptoBulkAll parts + 1
  | .iface _ d => uptoBulk d + 1
  | .map entries => uptoBulkEntries entries + 1
  | .held _ => 1
def uptoBulkAll {H : Type} : List (DataW H) → Nat
  | [] => 0
  | d :: r => uptoBulk d + uptoBulkAll r
def uptoBulkEntries {H : Type} : List (Lit × DataW H) → Nat
  | [] => 0
  | x :: r => uptoBulkEntry x + uptoBulkEntries r
def uptoBulkEntry {H : Type} : Lit × DataW H → Nat
  | (.string bytes, d) => bytes.length + uptoBulk d + 1
  | (_, d) => uptoBulk d + 1
 end
def uptoSmall : (H : Type) → List (DataW H) → Bool := fun _ ds => decide (uptoBulkAll ds ≤ 1048576)
def OpenSpec.upto (s : _root_.Go.ChangeSpec) : _root_.Go.OpenSpec := { _root_.Go.OpenSpec.ofChange s with cond := some uptoSmall }

/-- 'laws.FnExactReOk', WHERE WHAT IT READS IS OF BULK AT MOST 1048576: true; the input reads as it did. -/
def fnExactReOkUptoRow : OpenClaim := { program := "ytpikdepigcmfnaa", sum := "548d98f7927c98f8df71d4e8da059aac8ebd49e6fe754aa4d4b4f3b5bd46b785", func := "loop.example/g00102/laws.FnExactReOk", spec := "fnExactReOk", unfollowed := true, recurses := true, apart := false, narrowed := true }
def FnExactReOkUptoSaid : Prop := fnExactReOkUptoRow.holds Try.pinned (OpenSpec.upto fnExactReOkSpec)

/-- 'laws.FnExactRePrint', WHERE WHAT IT READS IS OF BULK AT MOST 1048576: true; the input reads as it did. -/
def fnExactRePrintUptoRow : OpenClaim := { program := "ytpikdepigcmfnaa", sum := "548d98f7927c98f8df71d4e8da059aac8ebd49e6fe754aa4d4b4f3b5bd46b785", func := "loop.example/g00102/laws.FnExactRePrint", spec := "fnExactRePrint", unfollowed := true, recurses := true, apart := false, narrowed := true }
def FnExactRePrintUptoSaid : Prop := fnExactRePrintUptoRow.holds Try.pinned (OpenSpec.upto fnExactRePrintSpec)

/-- 'laws.FnExactReNull', WHERE WHAT IT READS IS OF BULK AT MOST 1048576: true; the input reads as it did. -/
def fnExactReNullUptoRow : OpenClaim := { program := "ytpikdepigcmfnaa", sum := "548d98f7927c98f8df71d4e8da059aac8ebd49e6fe754aa4d4b4f3b5bd46b785", func := "loop.example/g00102/laws.FnExactReNull", spec := "fnExactReNull", unfollowed := true, recurses := true, apart := false, narrowed := true }
def FnExactReNullUptoSaid : Prop := fnExactReNullUptoRow.holds Try.pinned (OpenSpec.upto fnExactReNullSpec)

/-- 'laws.FnExactReParse', WHERE WHAT IT READS IS OF BULK AT MOST 1048576: true; the input reads as it did. -/
def fnExactReParseUptoRow : OpenClaim := { program := "ytpikdepigcmfnaa", sum := "548d98f7927c98f8df71d4e8da059aac8ebd49e6fe754aa4d4b4f3b5bd46b785", func := "loop.example/g00102/laws.FnExactReParse", spec := "fnExactReParse", unfollowed := true, recurses := true, apart := false, narrowed := true }
def FnExactReParseUptoSaid : Prop := fnExactReParseUptoRow.holds Try.pinned (OpenSpec.upto fnExactReParseSpec)

/-- 'laws.FnExactReTakes', WHERE WHAT IT READS IS OF BULK AT MOST 1048576: true; the input reads as it did. -/
def fnExactReTakesUptoRow : OpenClaim := { program := "ytpikdepigcmfnaa", sum := "548d98f7927c98f8df71d4e8da059aac8ebd49e6fe754aa4d4b4f3b5bd46b785", func := "loop.example/g00102/laws.FnExactReTakes", spec := "fnExactReTakes", unfollowed := true, recurses := true, apart := false, narrowed := true }
def FnExactReTakesUptoSaid : Prop := fnExactReTakesUptoRow.holds Try.pinned (OpenSpec.upto fnExactReTakesSpec)

/-- 'laws.FnExactOmegaOk', WHERE WHAT IT READS IS OF BULK AT MOST 1048576: true; the input reads as it did. -/
def fnExactOmegaOkUptoRow : OpenClaim := { program := "ytpikdepigcmfnaa", sum := "548d98f7927c98f8df71d4e8da059aac8ebd49e6fe754aa4d4b4f3b5bd46b785", func := "loop.example/g00102/laws.FnExactOmegaOk", spec := "fnExactOmegaOk", unfollowed := true, recurses := true, apart := false, narrowed := true }
def FnExactOmegaOkUptoSaid : Prop := fnExactOmegaOkUptoRow.holds Try.pinned (OpenSpec.upto fnExactOmegaOkSpec)

/-- 'laws.FnExactOmegaPrint', WHERE WHAT IT READS IS OF BULK AT MOST 1048576: true; the input reads as it did. -/
def fnExactOmegaPrintUptoRow : OpenClaim := { program := "ytpikdepigcmfnaa", sum := "548d98f7927c98f8df71d4e8da059aac8ebd49e6fe754aa4d4b4f3b5bd46b785", func := "loop.example/g00102/laws.FnExactOmegaPrint", spec := "fnExactOmegaPrint", inPlace := ["internal/abi.NoEscape", "internal/bytealg.MakeNoZero"], unfollowed := true, recurses := true, apart := false, narrowed := true }
def FnExactOmegaPrintUptoSaid : Prop := fnExactOmegaPrintUptoRow.holds Try.pinned (OpenSpec.upto fnExactOmegaPrintSpec)

/-- 'laws.FnExactExprParse', WHERE WHAT IT READS IS OF BULK AT MOST 1048576: true; the input reads as it did. -/
def fnExactExprParseUptoRow : OpenClaim := { program := "ytpikdepigcmfnaa", sum := "548d98f7927c98f8df71d4e8da059aac8ebd49e6fe754aa4d4b4f3b5bd46b785", func := "loop.example/g00102/laws.FnExactExprParse", spec := "fnExactExprParse", unfollowed := true, recurses := true, apart := false, narrowed := true }
def FnExactExprParseUptoSaid : Prop := fnExactExprParseUptoRow.holds Try.pinned (OpenSpec.upto fnExactExprParseSpec)

/-- 'laws.FnReText', WHERE WHAT IT READS IS OF BULK AT MOST 1048576: true; the input reads as it did. -/
def fnReTextUptoRow : OpenClaim := { program := "ytpikdepigcmfnaa", sum := "548d98f7927c98f8df71d4e8da059aac8ebd49e6fe754aa4d4b4f3b5bd46b785", func := "loop.example/g00102/laws.FnReText", spec := "fnReText", unfollowed := true, recurses := true, apart := false, narrowed := true }
def FnReTextUptoSaid : Prop := fnReTextUptoRow.holds Try.pinned (OpenSpec.upto fnReTextSpec)

/-- 'laws.FnReParts', WHERE WHAT IT READS IS OF BULK AT MOST 1048576: true; the input reads as it did. -/
def fnRePartsUptoRow : OpenClaim := { program := "ytpikdepigcmfnaa", sum := "548d98f7927c98f8df71d4e8da059aac8ebd49e6fe754aa4d4b4f3b5bd46b785", func := "loop.example/g00102/laws.FnReParts", spec := "fnReParts", unfollowed := true, recurses := true, apart := false, narrowed := true }
def FnRePartsUptoSaid : Prop := fnRePartsUptoRow.holds Try.pinned (OpenSpec.upto fnRePartsSpec)

/-- 'laws.FnExprText', WHERE WHAT IT READS IS OF BULK AT MOST 1048576: true; the input reads as it did. -/
def fnExprTextUptoRow : OpenClaim := { program := "ytpikdepigcmfnaa", sum := "548d98f7927c98f8df71d4e8da059aac8ebd49e6fe754aa4d4b4f3b5bd46b785", func := "loop.example/g00102/laws.FnExprText", spec := "fnExprText", unfollowed := true, recurses := true, apart := false, narrowed := true }
def FnExprTextUptoSaid : Prop := fnExprTextUptoRow.holds Try.pinned (OpenSpec.upto fnExprTextSpec)

/-- 'laws.FnExactNfaTakes', WHERE WHAT IT READS IS OF BULK AT MOST 1048576: true; the input reads as it did. -/
def fnExactNfaTakesUptoRow : OpenClaim := { program := "ytpikdepigcmfnaa", sum := "548d98f7927c98f8df71d4e8da059aac8ebd49e6fe754aa4d4b4f3b5bd46b785", func := "loop.example/g00102/laws.FnExactNfaTakes", spec := "fnExactNfaTakes", apart := false, narrowed := true }
def FnExactNfaTakesUptoSaid : Prop := fnExactNfaTakesUptoRow.holds Try.pinned (OpenSpec.upto fnExactNfaTakesSpec)

end Rows
end Go.Proofs.Ytpikdepigcmfnaa
