/-
  No cell of these rows narrows 'for every input' (looked for: loops, veiled, ifaces, maps, wideKeys, modest, calm, conditions, laid).
  DERIVED. THE GIVEN ROWS OF THIS SEAT. 5 by the template 'for every input the law returns true; each argument reads behind the call as it read before'; 0 by the template 'total and deterministic' (their statements: YtgklefbkneomoaaTotals.lean).
  GIVEN WITH THE SEED: the statements are not yours to turn. If you find one false, say at which input.
  Laid BY PROGRAM, IN A SANDBOX (cutbox-rows.mjs): the forced cells as the released guide's own fill.sh prints them over the translation 391a46f2d9031cc7… (all of the seat's roots in one cut). By AI agents, Wed Nov 11 2026. No macro, syntax, notation, axiom, sorry.
-/
import Derived.Test.YtgklefbkneomoaaChecked
import GoSem.Claim
import GoSem.ClaimJoined
import GoSem.ClaimMapViews
import Derived.JoinedTies
import Derived.KernelRfl
namespace Go.Proofs.Ytgklefbkneomoaa
/- THE CELL 'sum', in the pinned program and in every row, IS THE sha256 OF THE DUMP (.gsa) THAT YtgklefbkneomoaaProg.lean LOADS. Nothing in Lean hashes anything: it is a label: what it is worth is what the hold of that sum in a sandbox is worth. -/
noncomputable def Try.pinned : Pinned := { name := "ytgklefbkneomoaa", sum := "391a46f2d9031cc7f6f8d45b3a37266c0cfa9a84b48571a298f89c04472a7f08", checked := Try.checked }
namespace Rows
def none {H : Type} : Left H := { results := [], args := [] }

/-- 'laws.FnExactLtlTemporal': WHATEVER THE INPUT: true; the input reads as it did. -/
def fnExactLtlTemporalSpec : ChangeSpec := { name := "fnExactLtlTemporal", fn := fun _ => fun
  | [d] => { results := [.lit (.bool true)], args := [d] }
  | _ => none }
def fnExactLtlTemporalRow : OpenClaim := { program := "ytgklefbkneomoaa", sum := "391a46f2d9031cc7f6f8d45b3a37266c0cfa9a84b48571a298f89c04472a7f08", func := "loop.example/g00102/laws.FnExactLtlTemporal", spec := "fnExactLtlTemporal", unfollowed := true, recurses := true, apart := false }
def FnExactLtlTemporalSaid : Prop := fnExactLtlTemporalRow.holds Try.pinned (OpenSpec.ofChange fnExactLtlTemporalSpec)

/-- ITS FALSE NEIGHBOUR: 'it returns false'. Refute it at one input. -/
def fnExactLtlTemporalWrong : ChangeSpec := { name := "fnExactLtlTemporal", fn := fun _ => fun
  | [d] => { results := [.lit (.bool false)], args := [d] }
  | _ => none }
def FnExactLtlTemporalWrongFalsely : Prop := fnExactLtlTemporalRow.holds Try.pinned (OpenSpec.ofChange fnExactLtlTemporalWrong)

/-- 'laws.FnExactLtlPrint': WHATEVER THE INPUT: true; the input reads as it did. -/
def fnExactLtlPrintSpec : ChangeSpec := { name := "fnExactLtlPrint", fn := fun _ => fun
  | [d] => { results := [.lit (.bool true)], args := [d] }
  | _ => none }
def fnExactLtlPrintRow : OpenClaim := { program := "ytgklefbkneomoaa", sum := "391a46f2d9031cc7f6f8d45b3a37266c0cfa9a84b48571a298f89c04472a7f08", func := "loop.example/g00102/laws.FnExactLtlPrint", spec := "fnExactLtlPrint", unfollowed := true, recurses := true, apart := false }
def FnExactLtlPrintSaid : Prop := fnExactLtlPrintRow.holds Try.pinned (OpenSpec.ofChange fnExactLtlPrintSpec)

/-- ITS FALSE NEIGHBOUR: 'it returns false'. Refute it at one input. -/
def fnExactLtlPrintWrong : ChangeSpec := { name := "fnExactLtlPrint", fn := fun _ => fun
  | [d] => { results := [.lit (.bool false)], args := [d] }
  | _ => none }
def FnExactLtlPrintWrongFalsely : Prop := fnExactLtlPrintRow.holds Try.pinned (OpenSpec.ofChange fnExactLtlPrintWrong)

/-- 'laws.FnExactLtlPair': WHATEVER THE INPUT: true; the input reads as it did. -/
def fnExactLtlPairSpec : ChangeSpec := { name := "fnExactLtlPair", fn := fun _ => fun
  | [d1, d2, d3] => { results := [.lit (.bool true)], args := [d1, d2, d3] }
  | _ => none }
def fnExactLtlPairRow : OpenClaim := { program := "ytgklefbkneomoaa", sum := "391a46f2d9031cc7f6f8d45b3a37266c0cfa9a84b48571a298f89c04472a7f08", func := "loop.example/g00102/laws.FnExactLtlPair", spec := "fnExactLtlPair", unfollowed := true, recurses := true, apart := false }
def FnExactLtlPairSaid : Prop := fnExactLtlPairRow.holds Try.pinned (OpenSpec.ofChange fnExactLtlPairSpec)

/-- ITS FALSE NEIGHBOUR: 'it returns false'. Refute it at one input. -/
def fnExactLtlPairWrong : ChangeSpec := { name := "fnExactLtlPair", fn := fun _ => fun
  | [d1, d2, d3] => { results := [.lit (.bool false)], args := [d1, d2, d3] }
  | _ => none }
def FnExactLtlPairWrongFalsely : Prop := fnExactLtlPairRow.holds Try.pinned (OpenSpec.ofChange fnExactLtlPairWrong)

/-- 'laws.FnExactLtlParse': WHATEVER THE INPUT: true; the input reads as it did. -/
def fnExactLtlParseSpec : ChangeSpec := { name := "fnExactLtlParse", fn := fun _ => fun
  | [d] => { results := [.lit (.bool true)], args := [d] }
  | _ => none }
def fnExactLtlParseRow : OpenClaim := { program := "ytgklefbkneomoaa", sum := "391a46f2d9031cc7f6f8d45b3a37266c0cfa9a84b48571a298f89c04472a7f08", func := "loop.example/g00102/laws.FnExactLtlParse", spec := "fnExactLtlParse", unfollowed := true, recurses := true, apart := false }
def FnExactLtlParseSaid : Prop := fnExactLtlParseRow.holds Try.pinned (OpenSpec.ofChange fnExactLtlParseSpec)

/-- ITS FALSE NEIGHBOUR: 'it returns false'. Refute it at one input. -/
def fnExactLtlParseWrong : ChangeSpec := { name := "fnExactLtlParse", fn := fun _ => fun
  | [d] => { results := [.lit (.bool false)], args := [d] }
  | _ => none }
def FnExactLtlParseWrongFalsely : Prop := fnExactLtlParseRow.holds Try.pinned (OpenSpec.ofChange fnExactLtlParseWrong)

/-- 'laws.FnExactLtlNnf': WHATEVER THE INPUT: true; the input reads as it did. -/
def fnExactLtlNnfSpec : ChangeSpec := { name := "fnExactLtlNnf", fn := fun _ => fun
  | [d] => { results := [.lit (.bool true)], args := [d] }
  | _ => none }
def fnExactLtlNnfRow : OpenClaim := { program := "ytgklefbkneomoaa", sum := "391a46f2d9031cc7f6f8d45b3a37266c0cfa9a84b48571a298f89c04472a7f08", func := "loop.example/g00102/laws.FnExactLtlNnf", spec := "fnExactLtlNnf", unfollowed := true, recurses := true, apart := false }
def FnExactLtlNnfSaid : Prop := fnExactLtlNnfRow.holds Try.pinned (OpenSpec.ofChange fnExactLtlNnfSpec)

/-- ITS FALSE NEIGHBOUR: 'it returns false'. Refute it at one input. -/
def fnExactLtlNnfWrong : ChangeSpec := { name := "fnExactLtlNnf", fn := fun _ => fun
  | [d] => { results := [.lit (.bool false)], args := [d] }
  | _ => none }
def FnExactLtlNnfWrongFalsely : Prop := fnExactLtlNnfRow.holds Try.pinned (OpenSpec.ofChange fnExactLtlNnfWrong)

/- THE SECOND FORM. 'bulk': how many values and letters a reading holds, each counted each time it is reached (what is shared counts as often as it is met; a slice's spare places count too). A statement '..UptoSaid' is the law's where the arguments, and the package variables that the reading takes, are together of bulk at most 1048576: NARROWER than '..Said'. Prove '..Said' where nothing that the law and all that it calls make is longer than what came in: it says more and counts as full. Else prove '..UptoSaid'. A law counts once. -/
mutual
def uptoBulk {H : Type} : DataW H → Nat
  | .lit (.string bytes) => bytes.length + 1
  | .lit _ => 1
  | .nil => 1
  | .ptr d => uptoBulk d + 1
  | .slice elems spare => uptoBulkAll elems + uptoBulkAll spare + 1
  | .agg parts => uptoBulkAll parts + 1
  | .iface _ d => uptoBulk d + 1
  | .map entries => uptoBulkEntries entries + 1
  | .held _ => 1
def uptoBulkAll {H : Type} : List (DataW H) → Nat
  | [] => 0
  | d :: r => uptoBulk d + uptoBulkAll r
def uptoBulkEntries {H : Type} : List (Lit × DataW H) → Nat
  | [] => 0
  | x :: r => uptoBulkEntry x + uptoBulkEntries r
def uptoBulkEntry {H : Type} : Lit × DataW H → Nat
  | (.string bytes, d) => bytes.length + uptoBulk d + 1
  | (_, d) => uptoBulk d + 1
 end
def uptoSmall : (H : Type) → List (DataW H) → Bool := fun _ ds => decide (uptoBulkAll ds ≤ 1048576)
def OpenSpec.upto (s : _root_.Go.ChangeSpec) : _root_.Go.OpenSpec := { _root_.Go.OpenSpec.ofChange s with cond := some uptoSmall }

/-- 'laws.FnExactLtlTemporal', WHERE WHAT IT READS IS OF BULK AT MOST 1048576: true; the input reads as it did. -/
def fnExactLtlTemporalUptoRow : OpenClaim := { program := "ytgklefbkneomoaa", sum := "391a46f2d9031cc7f6f8d45b3a37266c0cfa9a84b48571a298f89c04472a7f08", func := "loop.example/g00102/laws.FnExactLtlTemporal", spec := "fnExactLtlTemporal", unfollowed := true, recurses := true, apart := false, narrowed := true }
def FnExactLtlTemporalUptoSaid : Prop := fnExactLtlTemporalUptoRow.holds Try.pinned (OpenSpec.upto fnExactLtlTemporalSpec)

/-- 'laws.FnExactLtlPrint', WHERE WHAT IT READS IS OF BULK AT MOST 1048576: true; the input reads as it did. -/
def fnExactLtlPrintUptoRow : OpenClaim := { program := "ytgklefbkneomoaa", sum := "391a46f2d9031cc7f6f8d45b3a37266c0cfa9a84b48571a298f89c04472a7f08", func := "loop.example/g00102/laws.FnExactLtlPrint", spec := "fnExactLtlPrint", unfollowed := true, recurses := true, apart := false, narrowed := true }
def FnExactLtlPrintUptoSaid : Prop := fnExactLtlPrintUptoRow.holds Try.pinned (OpenSpec.upto fnExactLtlPrintSpec)

/-- 'laws.FnExactLtlPair', WHERE WHAT IT READS IS OF BULK AT MOST 1048576: true; the input reads as it did. -/
def fnExactLtlPairUptoRow : OpenClaim := { program := "ytgklefbkneomoaa", sum := "391a46f2d9031cc7f6f8d45b3a37266c0cfa9a84b48571a298f89c04472a7f08", func := "loop.example/g00102/laws.FnExactLtlPair", spec := "fnExactLtlPair", unfollowed := true, recurses := true, apart := false, narrowed := true }
def FnExactLtlPairUptoSaid : Prop := fnExactLtlPairUptoRow.holds Try.pinned (OpenSpec.upto fnExactLtlPairSpec)

/-- 'laws.FnExactLtlParse', WHERE WHAT IT READS IS OF BULK AT MOST 1048576: true; the input reads as it did. -/
def fnExactLtlParseUptoRow : OpenClaim := { program := "ytgklefbkneomoaa", sum := "391a46f2d9031cc7f6f8d45b3a37266c0cfa9a84b48571a298f89c04472a7f08", func := "loop.example/g00102/laws.FnExactLtlParse", spec := "fnExactLtlParse", unfollowed := true, recurses := true, apart := false, narrowed := true }
def FnExactLtlParseUptoSaid : Prop := fnExactLtlParseUptoRow.holds Try.pinned (OpenSpec.upto fnExactLtlParseSpec)

/-- 'laws.FnExactLtlNnf', WHERE WHAT IT READS IS OF BULK AT MOST 1048576: true; the input reads as it did. -/
def fnExactLtlNnfUptoRow : OpenClaim := { program := "ytgklefbkneomoaa", sum := "391a46f2d9031cc7f6f8d45b3a37266c0cfa9a84b48571a298f89c04472a7f08", func := "loop.example/g00102/laws.FnExactLtlNnf", spec := "fnExactLtlNnf", unfollowed := true, recurses := true, apart := false, narrowed := true }
def FnExactLtlNnfUptoSaid : Prop := fnExactLtlNnfUptoRow.holds Try.pinned (OpenSpec.upto fnExactLtlNnfSpec)

end Rows
end Go.Proofs.Ytgklefbkneomoaa
