/-
  No cell of these rows narrows 'for every input' (looked for: loops, veiled, ifaces, maps, wideKeys, modest, calm, conditions, laid).
  DERIVED. THE GIVEN ROWS OF THIS SEAT. 7 by the template 'for every input the law returns true; each argument reads behind the call as it read before'; 0 by the template 'total and deterministic' (their statements: YtjjlkncefgfljaaTotals.lean).
  GIVEN WITH THE SEED: the statements are not yours to turn. If you find one false, say at which input.
  Laid BY PROGRAM, IN A SANDBOX (cutbox-rows.mjs): the forced cells as the released guide's own fill.sh prints them over the translation f7ce5009263b2d73… (all of the seat's roots in one cut). By AI agents, Wed Nov 11 2026. No macro, syntax, notation, axiom, sorry.
-/
import Derived.Test.YtjjlkncefgfljaaChecked
import GoSem.Claim
import GoSem.ClaimJoined
import GoSem.ClaimMapViews
import Derived.JoinedTies
import Derived.KernelRfl
namespace Go.Proofs.Ytjjlkncefgfljaa
/- THE CELL 'sum', in the pinned program and in every row, IS THE sha256 OF THE DUMP (.gsa) THAT YtjjlkncefgfljaaProg.lean LOADS. Nothing in Lean hashes anything: it is a label: what it is worth is what the hold of that sum in a sandbox is worth. -/
noncomputable def Try.pinned : Pinned := { name := "ytjjlkncefgfljaa", sum := "f7ce5009263b2d73987ffaa5b8c4fb769079ff96f2a7eefbbdaad89f1fa8a203", checked := Try.checked }
namespace Rows
def none {H : Type} : Left H := { results := [], args := [] }

/-- 'laws.FnPair8': WHATEVER THE INPUT: true; the input reads as it did. -/
def fnPair8Spec : ChangeSpec := { name := "fnPair8", fn := fun _ => fun
  | [d] => { results := [.lit (.bool true)], args := [d] }
  | _ => none }
def fnPair8Row : OpenClaim := { program := "ytjjlkncefgfljaa", sum := "f7ce5009263b2d73987ffaa5b8c4fb769079ff96f2a7eefbbdaad89f1fa8a203", func := "loop.example/g00102/laws.FnPair8", spec := "fnPair8", unfollowed := true, recurses := true, apart := false }
def FnPair8Said : Prop := fnPair8Row.holds Try.pinned (OpenSpec.ofChange fnPair8Spec)

/-- ITS FALSE NEIGHBOUR: 'it returns false'. Refute it at one input. -/
def fnPair8Wrong : ChangeSpec := { name := "fnPair8", fn := fun _ => fun
  | [d] => { results := [.lit (.bool false)], args := [d] }
  | _ => none }
def FnPair8WrongFalsely : Prop := fnPair8Row.holds Try.pinned (OpenSpec.ofChange fnPair8Wrong)

/-- 'laws.FnExactLtlAt': WHATEVER THE INPUT: true; the input reads as it did. -/
def fnExactLtlAtSpec : ChangeSpec := { name := "fnExactLtlAt", fn := fun _ => fun
  | [d1, d2, d3] => { results := [.lit (.bool true)], args := [d1, d2, d3] }
  | _ => none }
def fnExactLtlAtRow : OpenClaim := { program := "ytjjlkncefgfljaa", sum := "f7ce5009263b2d73987ffaa5b8c4fb769079ff96f2a7eefbbdaad89f1fa8a203", func := "loop.example/g00102/laws.FnExactLtlAt", spec := "fnExactLtlAt", unfollowed := true, recurses := true, apart := false }
def FnExactLtlAtSaid : Prop := fnExactLtlAtRow.holds Try.pinned (OpenSpec.ofChange fnExactLtlAtSpec)

/-- ITS FALSE NEIGHBOUR: 'it returns false'. Refute it at one input. -/
def fnExactLtlAtWrong : ChangeSpec := { name := "fnExactLtlAt", fn := fun _ => fun
  | [d1, d2, d3] => { results := [.lit (.bool false)], args := [d1, d2, d3] }
  | _ => none }
def FnExactLtlAtWrongFalsely : Prop := fnExactLtlAtRow.holds Try.pinned (OpenSpec.ofChange fnExactLtlAtWrong)

/-- 'laws.FnExactLtlTakes': WHATEVER THE INPUT: true; the input reads as it did. -/
def fnExactLtlTakesSpec : ChangeSpec := { name := "fnExactLtlTakes", fn := fun _ => fun
  | [d1, d2] => { results := [.lit (.bool true)], args := [d1, d2] }
  | _ => none }
def fnExactLtlTakesRow : OpenClaim := { program := "ytjjlkncefgfljaa", sum := "f7ce5009263b2d73987ffaa5b8c4fb769079ff96f2a7eefbbdaad89f1fa8a203", func := "loop.example/g00102/laws.FnExactLtlTakes", spec := "fnExactLtlTakes", unfollowed := true, recurses := true, apart := false }
def FnExactLtlTakesSaid : Prop := fnExactLtlTakesRow.holds Try.pinned (OpenSpec.ofChange fnExactLtlTakesSpec)

/-- ITS FALSE NEIGHBOUR: 'it returns false'. Refute it at one input. -/
def fnExactLtlTakesWrong : ChangeSpec := { name := "fnExactLtlTakes", fn := fun _ => fun
  | [d1, d2] => { results := [.lit (.bool false)], args := [d1, d2] }
  | _ => none }
def FnExactLtlTakesWrongFalsely : Prop := fnExactLtlTakesRow.holds Try.pinned (OpenSpec.ofChange fnExactLtlTakesWrong)

/-- 'laws.FnExactLtlTable': WHATEVER THE INPUT: true; the input reads as it did. -/
def fnExactLtlTableSpec : ChangeSpec := { name := "fnExactLtlTable", fn := fun _ => fun
  | [d1, d2] => { results := [.lit (.bool true)], args := [d1, d2] }
  | _ => none }
def fnExactLtlTableRow : OpenClaim := { program := "ytjjlkncefgfljaa", sum := "f7ce5009263b2d73987ffaa5b8c4fb769079ff96f2a7eefbbdaad89f1fa8a203", func := "loop.example/g00102/laws.FnExactLtlTable", spec := "fnExactLtlTable", unfollowed := true, recurses := true, apart := false }
def FnExactLtlTableSaid : Prop := fnExactLtlTableRow.holds Try.pinned (OpenSpec.ofChange fnExactLtlTableSpec)

/-- ITS FALSE NEIGHBOUR: 'it returns false'. Refute it at one input. -/
def fnExactLtlTableWrong : ChangeSpec := { name := "fnExactLtlTable", fn := fun _ => fun
  | [d1, d2] => { results := [.lit (.bool false)], args := [d1, d2] }
  | _ => none }
def FnExactLtlTableWrongFalsely : Prop := fnExactLtlTableRow.holds Try.pinned (OpenSpec.ofChange fnExactLtlTableWrong)

/-- 'laws.FnSteps9': WHATEVER THE INPUT: true; the input reads as it did. -/
def fnSteps9Spec : ChangeSpec := { name := "fnSteps9", fn := fun _ => fun
  | [d] => { results := [.lit (.bool true)], args := [d] }
  | _ => none }
def fnSteps9Row : OpenClaim := { program := "ytjjlkncefgfljaa", sum := "f7ce5009263b2d73987ffaa5b8c4fb769079ff96f2a7eefbbdaad89f1fa8a203", func := "loop.example/g00102/laws.FnSteps9", spec := "fnSteps9", unfollowed := true, recurses := true, apart := false }
def FnSteps9Said : Prop := fnSteps9Row.holds Try.pinned (OpenSpec.ofChange fnSteps9Spec)

/-- ITS FALSE NEIGHBOUR: 'it returns false'. Refute it at one input. -/
def fnSteps9Wrong : ChangeSpec := { name := "fnSteps9", fn := fun _ => fun
  | [d] => { results := [.lit (.bool false)], args := [d] }
  | _ => none }
def FnSteps9WrongFalsely : Prop := fnSteps9Row.holds Try.pinned (OpenSpec.ofChange fnSteps9Wrong)

/-- 'laws.FnLater': WHATEVER THE INPUT: true; the input reads as it did. -/
def fnLaterSpec : ChangeSpec := { name := "fnLater", fn := fun _ => fun
  | [d] => { results := [.lit (.bool true)], args := [d] }
  | _ => none }
def fnLaterRow : OpenClaim := { program := "ytjjlkncefgfljaa", sum := "f7ce5009263b2d73987ffaa5b8c4fb769079ff96f2a7eefbbdaad89f1fa8a203", func := "loop.example/g00102/laws.FnLater", spec := "fnLater", unfollowed := true, recurses := true, apart := false }
def FnLaterSaid : Prop := fnLaterRow.holds Try.pinned (OpenSpec.ofChange fnLaterSpec)

/-- ITS FALSE NEIGHBOUR: 'it returns false'. Refute it at one input. -/
def fnLaterWrong : ChangeSpec := { name := "fnLater", fn := fun _ => fun
  | [d] => { results := [.lit (.bool false)], args := [d] }
  | _ => none }
def FnLaterWrongFalsely : Prop := fnLaterRow.holds Try.pinned (OpenSpec.ofChange fnLaterWrong)

/-- 'laws.FnNnf': WHATEVER THE INPUT: true; the input reads as it did. -/
def fnNnfSpec : ChangeSpec := { name := "fnNnf", fn := fun _ => fun
  | [d] => { results := [.lit (.bool true)], args := [d] }
  | _ => none }
def fnNnfRow : OpenClaim := { program := "ytjjlkncefgfljaa", sum := "f7ce5009263b2d73987ffaa5b8c4fb769079ff96f2a7eefbbdaad89f1fa8a203", func := "loop.example/g00102/laws.FnNnf", spec := "fnNnf", unfollowed := true, recurses := true, apart := false }
def FnNnfSaid : Prop := fnNnfRow.holds Try.pinned (OpenSpec.ofChange fnNnfSpec)

/-- ITS FALSE NEIGHBOUR: 'it returns false'. Refute it at one input. -/
def fnNnfWrong : ChangeSpec := { name := "fnNnf", fn := fun _ => fun
  | [d] => { results := [.lit (.bool false)], args := [d] }
  | _ => none }
def FnNnfWrongFalsely : Prop := fnNnfRow.holds Try.pinned (OpenSpec.ofChange fnNnfWrong)

/- THE SECOND FORM. 'bulk': how many values and letters a reading holds, each counted each time it is reached (what is shared counts as often as it is met; a slice's spare places count too). A statement '..UptoSaid' is the law's where the arguments, and the package variables that the reading takes, are together of bulk at most 1048576: NARROWER than '..Said'. Prove '..Said' where nothing that the law and all that it calls make is longer than what came in: it says more and counts as full. Else prove '..UptoSaid'. A law counts once. -/
mutual
def uptoBulk {H : Type} : DataW H → Nat
  | .lit (.string bytes) => bytes.length + 1
  | .lit _ => 1
  | .nil => 1
  | .ptr d => uptoBulk d + 1
  | .slice elems spare => uptoBulkAll elems + uptoBulkAll spare + 1
  | .agg parts => uptoBulkAll parts + 1
  | .iface _ d => uptoBulk d + 1
  | .map entries => uptoBulkEntries entries + 1
  | .held _ => 1
def uptoBulkAll {H : Type} : List (DataW H) → Nat
  | [] => 0
  | d :: r => uptoBulk d + uptoBulkAll r
def uptoBulkEntries {H : Type} : List (Lit × DataW H) → Nat
  | [] => 0
  | x :: r => uptoBulkEntry x + uptoBulkEntries r
def uptoBulkEntry {H : Type} : Lit × DataW H → Nat
  | (.string bytes, d) => bytes.length + uptoBulk d + 1
  | (_, d) => uptoBulk d + 1
 end
def uptoSmall : (H : Type) → List (DataW H) → Bool := fun _ ds => decide (uptoBulkAll ds ≤ 1048576)
def OpenSpec.upto (s : _root_.Go.ChangeSpec) : _root_.Go.OpenSpec := { _root_.Go.OpenSpec.ofChange s with cond := some uptoSmall }

/-- 'laws.FnPair8', WHERE WHAT IT READS IS OF BULK AT MOST 1048576: true; the input reads as it did. -/
def fnPair8UptoRow : OpenClaim := { program := "ytjjlkncefgfljaa", sum := "f7ce5009263b2d73987ffaa5b8c4fb769079ff96f2a7eefbbdaad89f1fa8a203", func := "loop.example/g00102/laws.FnPair8", spec := "fnPair8", unfollowed := true, recurses := true, apart := false, narrowed := true }
def FnPair8UptoSaid : Prop := fnPair8UptoRow.holds Try.pinned (OpenSpec.upto fnPair8Spec)

/-- 'laws.FnExactLtlAt', WHERE WHAT IT READS IS OF BULK AT MOST 1048576: true; the input reads as it did. -/
def fnExactLtlAtUptoRow : OpenClaim := { program := "ytjjlkncefgfljaa", sum := "f7ce5009263b2d73987ffaa5b8c4fb769079ff96f2a7eefbbdaad89f1fa8a203", func := "loop.example/g00102/laws.FnExactLtlAt", spec := "fnExactLtlAt", unfollowed := true, recurses := true, apart := false, narrowed := true }
def FnExactLtlAtUptoSaid : Prop := fnExactLtlAtUptoRow.holds Try.pinned (OpenSpec.upto fnExactLtlAtSpec)

/-- 'laws.FnExactLtlTakes', WHERE WHAT IT READS IS OF BULK AT MOST 1048576: true; the input reads as it did. -/
def fnExactLtlTakesUptoRow : OpenClaim := { program := "ytjjlkncefgfljaa", sum := "f7ce5009263b2d73987ffaa5b8c4fb769079ff96f2a7eefbbdaad89f1fa8a203", func := "loop.example/g00102/laws.FnExactLtlTakes", spec := "fnExactLtlTakes", unfollowed := true, recurses := true, apart := false, narrowed := true }
def FnExactLtlTakesUptoSaid : Prop := fnExactLtlTakesUptoRow.holds Try.pinned (OpenSpec.upto fnExactLtlTakesSpec)

/-- 'laws.FnExactLtlTable', WHERE WHAT IT READS IS OF BULK AT MOST 1048576: true; the input reads as it did. -/
def fnExactLtlTableUptoRow : OpenClaim := { program := "ytjjlkncefgfljaa", sum := "f7ce5009263b2d73987ffaa5b8c4fb769079ff96f2a7eefbbdaad89f1fa8a203", func := "loop.example/g00102/laws.FnExactLtlTable", spec := "fnExactLtlTable", unfollowed := true, recurses := true, apart := false, narrowed := true }
def FnExactLtlTableUptoSaid : Prop := fnExactLtlTableUptoRow.holds Try.pinned (OpenSpec.upto fnExactLtlTableSpec)

/-- 'laws.FnSteps9', WHERE WHAT IT READS IS OF BULK AT MOST 1048576: true; the input reads as it did. -/
def fnSteps9UptoRow : OpenClaim := { program := "ytjjlkncefgfljaa", sum := "f7ce5009263b2d73987ffaa5b8c4fb769079ff96f2a7eefbbdaad89f1fa8a203", func := "loop.example/g00102/laws.FnSteps9", spec := "fnSteps9", unfollowed := true, recurses := true, apart := false, narrowed := true }
def FnSteps9UptoSaid : Prop := fnSteps9UptoRow.holds Try.pinned (OpenSpec.upto fnSteps9Spec)

/-- 'laws.FnLater', WHERE WHAT IT READS IS OF BULK AT MOST 1048576: true; the input reads as it did. -/
def fnLaterUptoRow : OpenClaim := { program := "ytjjlkncefgfljaa", sum := "f7ce5009263b2d73987ffaa5b8c4fb769079ff96f2a7eefbbdaad89f1fa8a203", func := "loop.example/g00102/laws.FnLater", spec := "fnLater", unfollowed := true, recurses := true, apart := false, narrowed := true }
def FnLaterUptoSaid : Prop := fnLaterUptoRow.holds Try.pinned (OpenSpec.upto fnLaterSpec)

/-- 'laws.FnNnf', WHERE WHAT IT READS IS OF BULK AT MOST 1048576: true; the input reads as it did. -/
def fnNnfUptoRow : OpenClaim := { program := "ytjjlkncefgfljaa", sum := "f7ce5009263b2d73987ffaa5b8c4fb769079ff96f2a7eefbbdaad89f1fa8a203", func := "loop.example/g00102/laws.FnNnf", spec := "fnNnf", unfollowed := true, recurses := true, apart := false, narrowed := true }
def FnNnfUptoSaid : Prop := fnNnfUptoRow.holds Try.pinned (OpenSpec.upto fnNnfSpec)

end Rows
end Go.Proofs.Ytjjlkncefgfljaa
