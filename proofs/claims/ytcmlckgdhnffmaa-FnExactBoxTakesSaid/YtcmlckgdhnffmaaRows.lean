/-
  No cell of these rows narrows 'for every input' (looked for: loops, veiled, ifaces, maps, wideKeys, modest, calm, conditions, laid).
  DERIVED. THE GIVEN ROWS OF THIS SEAT. 12 by the template 'for every input the law returns true; each argument reads behind the call as it read before'; 0 by the template 'total and deterministic' (their statements: YtcmlckgdhnffmaaTotals.lean).
  GIVEN WITH THE SEED: the statements are not yours to turn. If you find one false, say at which input.
  Laid BY PROGRAM, IN A SANDBOX (cutbox-rows.mjs): the forced cells as the released guide's own fill.sh prints them over the translation 35971880e6d3a0ef… (all of the seat's roots in one cut). By AI agents, Wed Nov 11 2026. No macro, syntax, notation, axiom, sorry.
-/
import Derived.Test.YtcmlckgdhnffmaaChecked
import GoSem.Claim
import GoSem.ClaimJoined
import GoSem.ClaimMapViews
import Derived.JoinedTies
import Derived.KernelRfl
namespace Go.Proofs.Ytcmlckgdhnffmaa
/- THE CELL 'sum', in the pinned program and in every row, IS THE sha256 OF THE DUMP (.gsa) THAT YtcmlckgdhnffmaaProg.lean LOADS. Nothing in Lean hashes anything: it is a label: what it is worth is what the hold of that sum in a sandbox is worth. -/
noncomputable def Try.pinned : Pinned := { name := "ytcmlckgdhnffmaa", sum := "35971880e6d3a0efa6aa0c7d9a2fcb9710625a43ab0c7daa0f8abc59d9390ad6", checked := Try.checked }
namespace Rows
def none {H : Type} : Left H := { results := [], args := [] }

/-- 'laws.FnExactBoxOk': WHATEVER THE INPUT: true; the input reads as it did. -/
def fnExactBoxOkSpec : ChangeSpec := { name := "fnExactBoxOk", fn := fun _ => fun
  | [d1, d2] => { results := [.lit (.bool true)], args := [d1, d2] }
  | _ => none }
def fnExactBoxOkRow : OpenClaim := { program := "ytcmlckgdhnffmaa", sum := "35971880e6d3a0efa6aa0c7d9a2fcb9710625a43ab0c7daa0f8abc59d9390ad6", func := "loop.example/g00102/laws.FnExactBoxOk", spec := "fnExactBoxOk", apart := false }
def FnExactBoxOkSaid : Prop := fnExactBoxOkRow.holds Try.pinned (OpenSpec.ofChange fnExactBoxOkSpec)

/-- ITS FALSE NEIGHBOUR: 'it returns false'. Refute it at one input. -/
def fnExactBoxOkWrong : ChangeSpec := { name := "fnExactBoxOk", fn := fun _ => fun
  | [d1, d2] => { results := [.lit (.bool false)], args := [d1, d2] }
  | _ => none }
def FnExactBoxOkWrongFalsely : Prop := fnExactBoxOkRow.holds Try.pinned (OpenSpec.ofChange fnExactBoxOkWrong)

/-- 'laws.FnExactBoxOne': WHATEVER THE INPUT: true; the input reads as it did. -/
def fnExactBoxOneSpec : ChangeSpec := { name := "fnExactBoxOne", fn := fun _ => fun
  | [d] => { results := [.lit (.bool true)], args := [d] }
  | _ => none }
def fnExactBoxOneRow : OpenClaim := { program := "ytcmlckgdhnffmaa", sum := "35971880e6d3a0efa6aa0c7d9a2fcb9710625a43ab0c7daa0f8abc59d9390ad6", func := "loop.example/g00102/laws.FnExactBoxOne", spec := "fnExactBoxOne", apart := false }
def FnExactBoxOneSaid : Prop := fnExactBoxOneRow.holds Try.pinned (OpenSpec.ofChange fnExactBoxOneSpec)

/-- ITS FALSE NEIGHBOUR: 'it returns false'. Refute it at one input. -/
def fnExactBoxOneWrong : ChangeSpec := { name := "fnExactBoxOne", fn := fun _ => fun
  | [d] => { results := [.lit (.bool false)], args := [d] }
  | _ => none }
def FnExactBoxOneWrongFalsely : Prop := fnExactBoxOneRow.holds Try.pinned (OpenSpec.ofChange fnExactBoxOneWrong)

/-- 'laws.FnExactBoxMul': WHATEVER THE INPUT: true; the input reads as it did. -/
def fnExactBoxMulSpec : ChangeSpec := { name := "fnExactBoxMul", fn := fun _ => fun
  | [d1, d2, d3] => { results := [.lit (.bool true)], args := [d1, d2, d3] }
  | _ => none }
def fnExactBoxMulRow : OpenClaim := { program := "ytcmlckgdhnffmaa", sum := "35971880e6d3a0efa6aa0c7d9a2fcb9710625a43ab0c7daa0f8abc59d9390ad6", func := "loop.example/g00102/laws.FnExactBoxMul", spec := "fnExactBoxMul", apart := false }
def FnExactBoxMulSaid : Prop := fnExactBoxMulRow.holds Try.pinned (OpenSpec.ofChange fnExactBoxMulSpec)

/-- ITS FALSE NEIGHBOUR: 'it returns false'. Refute it at one input. -/
def fnExactBoxMulWrong : ChangeSpec := { name := "fnExactBoxMul", fn := fun _ => fun
  | [d1, d2, d3] => { results := [.lit (.bool false)], args := [d1, d2, d3] }
  | _ => none }
def FnExactBoxMulWrongFalsely : Prop := fnExactBoxMulRow.holds Try.pinned (OpenSpec.ofChange fnExactBoxMulWrong)

/-- 'laws.FnBoxWord': WHATEVER THE INPUT: true; the input reads as it did. -/
def fnBoxWordSpec : ChangeSpec := { name := "fnBoxWord", fn := fun _ => fun
  | [d] => { results := [.lit (.bool true)], args := [d] }
  | _ => none }
def fnBoxWordRow : OpenClaim := { program := "ytcmlckgdhnffmaa", sum := "35971880e6d3a0efa6aa0c7d9a2fcb9710625a43ab0c7daa0f8abc59d9390ad6", func := "loop.example/g00102/laws.FnBoxWord", spec := "fnBoxWord", apart := false }
def FnBoxWordSaid : Prop := fnBoxWordRow.holds Try.pinned (OpenSpec.ofChange fnBoxWordSpec)

/-- ITS FALSE NEIGHBOUR: 'it returns false'. Refute it at one input. -/
def fnBoxWordWrong : ChangeSpec := { name := "fnBoxWord", fn := fun _ => fun
  | [d] => { results := [.lit (.bool false)], args := [d] }
  | _ => none }
def FnBoxWordWrongFalsely : Prop := fnBoxWordRow.holds Try.pinned (OpenSpec.ofChange fnBoxWordWrong)

/-- 'laws.FnExactNfaOk': WHATEVER THE INPUT: true; the input reads as it did. -/
def fnExactNfaOkSpec : ChangeSpec := { name := "fnExactNfaOk", fn := fun _ => fun
  | [d] => { results := [.lit (.bool true)], args := [d] }
  | _ => none }
def fnExactNfaOkRow : OpenClaim := { program := "ytcmlckgdhnffmaa", sum := "35971880e6d3a0efa6aa0c7d9a2fcb9710625a43ab0c7daa0f8abc59d9390ad6", func := "loop.example/g00102/laws.FnExactNfaOk", spec := "fnExactNfaOk", apart := false }
def FnExactNfaOkSaid : Prop := fnExactNfaOkRow.holds Try.pinned (OpenSpec.ofChange fnExactNfaOkSpec)

/-- ITS FALSE NEIGHBOUR: 'it returns false'. Refute it at one input. -/
def fnExactNfaOkWrong : ChangeSpec := { name := "fnExactNfaOk", fn := fun _ => fun
  | [d] => { results := [.lit (.bool false)], args := [d] }
  | _ => none }
def FnExactNfaOkWrongFalsely : Prop := fnExactNfaOkRow.holds Try.pinned (OpenSpec.ofChange fnExactNfaOkWrong)

/-- 'laws.FnExactRankOk': WHATEVER THE INPUT: true; the input reads as it did. -/
def fnExactRankOkSpec : ChangeSpec := { name := "fnExactRankOk", fn := fun _ => fun
  | [d1, d2] => { results := [.lit (.bool true)], args := [d1, d2] }
  | _ => none }
def fnExactRankOkRow : OpenClaim := { program := "ytcmlckgdhnffmaa", sum := "35971880e6d3a0efa6aa0c7d9a2fcb9710625a43ab0c7daa0f8abc59d9390ad6", func := "loop.example/g00102/laws.FnExactRankOk", spec := "fnExactRankOk", apart := false }
def FnExactRankOkSaid : Prop := fnExactRankOkRow.holds Try.pinned (OpenSpec.ofChange fnExactRankOkSpec)

/-- ITS FALSE NEIGHBOUR: 'it returns false'. Refute it at one input. -/
def fnExactRankOkWrong : ChangeSpec := { name := "fnExactRankOk", fn := fun _ => fun
  | [d1, d2] => { results := [.lit (.bool false)], args := [d1, d2] }
  | _ => none }
def FnExactRankOkWrongFalsely : Prop := fnExactRankOkRow.holds Try.pinned (OpenSpec.ofChange fnExactRankOkWrong)

/-- 'laws.FnExactBoxOf': WHATEVER THE INPUT: true; the input reads as it did. -/
def fnExactBoxOfSpec : ChangeSpec := { name := "fnExactBoxOf", fn := fun _ => fun
  | [d1, d2] => { results := [.lit (.bool true)], args := [d1, d2] }
  | _ => none }
def fnExactBoxOfRow : OpenClaim := { program := "ytcmlckgdhnffmaa", sum := "35971880e6d3a0efa6aa0c7d9a2fcb9710625a43ab0c7daa0f8abc59d9390ad6", func := "loop.example/g00102/laws.FnExactBoxOf", spec := "fnExactBoxOf", apart := false }
def FnExactBoxOfSaid : Prop := fnExactBoxOfRow.holds Try.pinned (OpenSpec.ofChange fnExactBoxOfSpec)

/-- ITS FALSE NEIGHBOUR: 'it returns false'. Refute it at one input. -/
def fnExactBoxOfWrong : ChangeSpec := { name := "fnExactBoxOf", fn := fun _ => fun
  | [d1, d2] => { results := [.lit (.bool false)], args := [d1, d2] }
  | _ => none }
def FnExactBoxOfWrongFalsely : Prop := fnExactBoxOfRow.holds Try.pinned (OpenSpec.ofChange fnExactBoxOfWrong)

/-- 'laws.FnExactBoxTakes': WHATEVER THE INPUT: true; the input reads as it did. -/
def fnExactBoxTakesSpec : ChangeSpec := { name := "fnExactBoxTakes", fn := fun _ => fun
  | [d1, d2, d3] => { results := [.lit (.bool true)], args := [d1, d2, d3] }
  | _ => none }
def fnExactBoxTakesRow : OpenClaim := { program := "ytcmlckgdhnffmaa", sum := "35971880e6d3a0efa6aa0c7d9a2fcb9710625a43ab0c7daa0f8abc59d9390ad6", func := "loop.example/g00102/laws.FnExactBoxTakes", spec := "fnExactBoxTakes", apart := false }
def FnExactBoxTakesSaid : Prop := fnExactBoxTakesRow.holds Try.pinned (OpenSpec.ofChange fnExactBoxTakesSpec)

/-- ITS FALSE NEIGHBOUR: 'it returns false'. Refute it at one input. -/
def fnExactBoxTakesWrong : ChangeSpec := { name := "fnExactBoxTakes", fn := fun _ => fun
  | [d1, d2, d3] => { results := [.lit (.bool false)], args := [d1, d2, d3] }
  | _ => none }
def FnExactBoxTakesWrongFalsely : Prop := fnExactBoxTakesRow.holds Try.pinned (OpenSpec.ofChange fnExactBoxTakesWrong)

/-- 'laws.FnBoxes': WHATEVER THE INPUT: true; the input reads as it did. -/
def fnBoxesSpec : ChangeSpec := { name := "fnBoxes", fn := fun _ => fun
  | [d] => { results := [.lit (.bool true)], args := [d] }
  | _ => none }
def fnBoxesRow : OpenClaim := { program := "ytcmlckgdhnffmaa", sum := "35971880e6d3a0efa6aa0c7d9a2fcb9710625a43ab0c7daa0f8abc59d9390ad6", func := "loop.example/g00102/laws.FnBoxes", spec := "fnBoxes", apart := false }
def FnBoxesSaid : Prop := fnBoxesRow.holds Try.pinned (OpenSpec.ofChange fnBoxesSpec)

/-- ITS FALSE NEIGHBOUR: 'it returns false'. Refute it at one input. -/
def fnBoxesWrong : ChangeSpec := { name := "fnBoxes", fn := fun _ => fun
  | [d] => { results := [.lit (.bool false)], args := [d] }
  | _ => none }
def FnBoxesWrongFalsely : Prop := fnBoxesRow.holds Try.pinned (OpenSpec.ofChange fnBoxesWrong)

/-- 'laws.FnAllBoxes': WHATEVER THE INPUT: true; the input reads as it did. -/
def fnAllBoxesSpec : ChangeSpec := { name := "fnAllBoxes", fn := fun _ => fun
  | [d] => { results := [.lit (.bool true)], args := [d] }
  | _ => none }
def fnAllBoxesRow : OpenClaim := { program := "ytcmlckgdhnffmaa", sum := "35971880e6d3a0efa6aa0c7d9a2fcb9710625a43ab0c7daa0f8abc59d9390ad6", func := "loop.example/g00102/laws.FnAllBoxes", spec := "fnAllBoxes", unfollowed := true, recurses := true, apart := false }
def FnAllBoxesSaid : Prop := fnAllBoxesRow.holds Try.pinned (OpenSpec.ofChange fnAllBoxesSpec)

/-- ITS FALSE NEIGHBOUR: 'it returns false'. Refute it at one input. -/
def fnAllBoxesWrong : ChangeSpec := { name := "fnAllBoxes", fn := fun _ => fun
  | [d] => { results := [.lit (.bool false)], args := [d] }
  | _ => none }
def FnAllBoxesWrongFalsely : Prop := fnAllBoxesRow.holds Try.pinned (OpenSpec.ofChange fnAllBoxesWrong)

/-- 'laws.FnExactBoxesOf': WHATEVER THE INPUT: true; the input reads as it did. -/
def fnExactBoxesOfSpec : ChangeSpec := { name := "fnExactBoxesOf", fn := fun _ => fun
  | [d] => { results := [.lit (.bool true)], args := [d] }
  | _ => none }
def fnExactBoxesOfRow : OpenClaim := { program := "ytcmlckgdhnffmaa", sum := "35971880e6d3a0efa6aa0c7d9a2fcb9710625a43ab0c7daa0f8abc59d9390ad6", func := "loop.example/g00102/laws.FnExactBoxesOf", spec := "fnExactBoxesOf", unfollowed := true, recurses := true, apart := false }
def FnExactBoxesOfSaid : Prop := fnExactBoxesOfRow.holds Try.pinned (OpenSpec.ofChange fnExactBoxesOfSpec)

/-- ITS FALSE NEIGHBOUR: 'it returns false'. Refute it at one input. -/
def fnExactBoxesOfWrong : ChangeSpec := { name := "fnExactBoxesOf", fn := fun _ => fun
  | [d] => { results := [.lit (.bool false)], args := [d] }
  | _ => none }
def FnExactBoxesOfWrongFalsely : Prop := fnExactBoxesOfRow.holds Try.pinned (OpenSpec.ofChange fnExactBoxesOfWrong)

/-- 'laws.FnExactBoxIn': WHATEVER THE INPUT: true; the input reads as it did. -/
def fnExactBoxInSpec : ChangeSpec := { name := "fnExactBoxIn", fn := fun _ => fun
  | [d1, d2] => { results := [.lit (.bool true)], args := [d1, d2] }
  | _ => none }
def fnExactBoxInRow : OpenClaim := { program := "ytcmlckgdhnffmaa", sum := "35971880e6d3a0efa6aa0c7d9a2fcb9710625a43ab0c7daa0f8abc59d9390ad6", func := "loop.example/g00102/laws.FnExactBoxIn", spec := "fnExactBoxIn", unfollowed := true, recurses := true, apart := false }
def FnExactBoxInSaid : Prop := fnExactBoxInRow.holds Try.pinned (OpenSpec.ofChange fnExactBoxInSpec)

/-- ITS FALSE NEIGHBOUR: 'it returns false'. Refute it at one input. -/
def fnExactBoxInWrong : ChangeSpec := { name := "fnExactBoxIn", fn := fun _ => fun
  | [d1, d2] => { results := [.lit (.bool false)], args := [d1, d2] }
  | _ => none }
def FnExactBoxInWrongFalsely : Prop := fnExactBoxInRow.holds Try.pinned (OpenSpec.ofChange fnExactBoxInWrong)

/- THE SECOND FORM. 'bulk': how many values and letters a reading holds, each counted each time it is reached (what is shared counts as often as it is met; a slice's spare places count too). A statement '..UptoSaid' is the law's where the arguments, and the package variables that the reading takes, are together of bulk at most 1048576: NARROWER than '..Said'. Prove '..Said' where nothing that the law and all that it calls make is longer than what came in: it says more and counts as full. Else prove '..UptoSaid'. A law counts once. -/
mutual
def uptoBulk {H : Type} : DataW H → Nat
  | .lit (.string bytes) => bytes.length + 1
  | .lit _ => 1
  | .nil => 1
  | .ptr d => uptoBulk d + 1
  | .slice elems spare => uptoBulkAll elems + uptoBulkAll spare + 1
  | .agg parts => uptoBulkAll parts + 1
  | .iface _ d => uptoBulk d + 1
  | .map entries => uptoBulkEntries entries + 1
  | .held _ => 1
def uptoBulkAll {H : Type} : List (DataW H) → Nat
  | [] => 0
  | d :: r => uptoBulk d + uptoBulkAll r
def uptoBulkEntries {H : Type} : List (Lit × DataW H) → Nat
  | [] => 0
  | x :: r => uptoBulkEntry x + uptoBulkEntries r
def uptoBulkEntry {H : Type} : Lit × DataW H → Nat
  | (.string bytes, d) => bytes.length + uptoBulk d + 1
  | (_, d) => uptoBulk d + 1
 end
def uptoSmall : (H : Type) → List (DataW H) → Bool := fun _ ds => decide (uptoBulkAll ds ≤ 1048576)
def OpenSpec.upto (s : _root_.Go.ChangeSpec) : _root_.Go.OpenSpec := { _root_.Go.OpenSpec.ofChange s with cond := some uptoSmall }

/-- 'laws.FnExactBoxOk', WHERE WHAT IT READS IS OF BULK AT MOST 1048576: true; the input reads as it did. -/
def fnExactBoxOkUptoRow : OpenClaim := { program := "ytcmlckgdhnffmaa", sum := "35971880e6d3a0efa6aa0c7d9a2fcb9710625a43ab0c7daa0f8abc59d9390ad6", func := "loop.example/g00102/laws.FnExactBoxOk", spec := "fnExactBoxOk", apart := false, narrowed := true }
def FnExactBoxOkUptoSaid : Prop := fnExactBoxOkUptoRow.holds Try.pinned (OpenSpec.upto fnExactBoxOkSpec)

/-- 'laws.FnExactBoxOne', WHERE WHAT IT READS IS OF BULK AT MOST 1048576: true; the input reads as it did. -/
def fnExactBoxOneUptoRow : OpenClaim := { program := "ytcmlckgdhnffmaa", sum := "35971880e6d3a0efa6aa0c7d9a2fcb9710625a43ab0c7daa0f8abc59d9390ad6", func := "loop.example/g00102/laws.FnExactBoxOne", spec := "fnExactBoxOne", apart := false, narrowed := true }
def FnExactBoxOneUptoSaid : Prop := fnExactBoxOneUptoRow.holds Try.pinned (OpenSpec.upto fnExactBoxOneSpec)

/-- 'laws.FnExactBoxMul', WHERE WHAT IT READS IS OF BULK AT MOST 1048576: true; the input reads as it did. -/
def fnExactBoxMulUptoRow : OpenClaim := { program := "ytcmlckgdhnffmaa", sum := "35971880e6d3a0efa6aa0c7d9a2fcb9710625a43ab0c7daa0f8abc59d9390ad6", func := "loop.example/g00102/laws.FnExactBoxMul", spec := "fnExactBoxMul", apart := false, narrowed := true }
def FnExactBoxMulUptoSaid : Prop := fnExactBoxMulUptoRow.holds Try.pinned (OpenSpec.upto fnExactBoxMulSpec)

/-- 'laws.FnBoxWord', WHERE WHAT IT READS IS OF BULK AT MOST 1048576: true; the input reads as it did. -/
def fnBoxWordUptoRow : OpenClaim := { program := "ytcmlckgdhnffmaa", sum := "35971880e6d3a0efa6aa0c7d9a2fcb9710625a43ab0c7daa0f8abc59d9390ad6", func := "loop.example/g00102/laws.FnBoxWord", spec := "fnBoxWord", apart := false, narrowed := true }
def FnBoxWordUptoSaid : Prop := fnBoxWordUptoRow.holds Try.pinned (OpenSpec.upto fnBoxWordSpec)

/-- 'laws.FnExactNfaOk', WHERE WHAT IT READS IS OF BULK AT MOST 1048576: true; the input reads as it did. -/
def fnExactNfaOkUptoRow : OpenClaim := { program := "ytcmlckgdhnffmaa", sum := "35971880e6d3a0efa6aa0c7d9a2fcb9710625a43ab0c7daa0f8abc59d9390ad6", func := "loop.example/g00102/laws.FnExactNfaOk", spec := "fnExactNfaOk", apart := false, narrowed := true }
def FnExactNfaOkUptoSaid : Prop := fnExactNfaOkUptoRow.holds Try.pinned (OpenSpec.upto fnExactNfaOkSpec)

/-- 'laws.FnExactRankOk', WHERE WHAT IT READS IS OF BULK AT MOST 1048576: true; the input reads as it did. -/
def fnExactRankOkUptoRow : OpenClaim := { program := "ytcmlckgdhnffmaa", sum := "35971880e6d3a0efa6aa0c7d9a2fcb9710625a43ab0c7daa0f8abc59d9390ad6", func := "loop.example/g00102/laws.FnExactRankOk", spec := "fnExactRankOk", apart := false, narrowed := true }
def FnExactRankOkUptoSaid : Prop := fnExactRankOkUptoRow.holds Try.pinned (OpenSpec.upto fnExactRankOkSpec)

/-- 'laws.FnExactBoxOf', WHERE WHAT IT READS IS OF BULK AT MOST 1048576: true; the input reads as it did. -/
def fnExactBoxOfUptoRow : OpenClaim := { program := "ytcmlckgdhnffmaa", sum := "35971880e6d3a0efa6aa0c7d9a2fcb9710625a43ab0c7daa0f8abc59d9390ad6", func := "loop.example/g00102/laws.FnExactBoxOf", spec := "fnExactBoxOf", apart := false, narrowed := true }
def FnExactBoxOfUptoSaid : Prop := fnExactBoxOfUptoRow.holds Try.pinned (OpenSpec.upto fnExactBoxOfSpec)

/-- 'laws.FnExactBoxTakes', WHERE WHAT IT READS IS OF BULK AT MOST 1048576: true; the input reads as it did. -/
def fnExactBoxTakesUptoRow : OpenClaim := { program := "ytcmlckgdhnffmaa", sum := "35971880e6d3a0efa6aa0c7d9a2fcb9710625a43ab0c7daa0f8abc59d9390ad6", func := "loop.example/g00102/laws.FnExactBoxTakes", spec := "fnExactBoxTakes", apart := false, narrowed := true }
def FnExactBoxTakesUptoSaid : Prop := fnExactBoxTakesUptoRow.holds Try.pinned (OpenSpec.upto fnExactBoxTakesSpec)

/-- 'laws.FnBoxes', WHERE WHAT IT READS IS OF BULK AT MOST 1048576: true; the input reads as it did. -/
def fnBoxesUptoRow : OpenClaim := { program := "ytcmlckgdhnffmaa", sum := "35971880e6d3a0efa6aa0c7d9a2fcb9710625a43ab0c7daa0f8abc59d9390ad6", func := "loop.example/g00102/laws.FnBoxes", spec := "fnBoxes", apart := false, narrowed := true }
def FnBoxesUptoSaid : Prop := fnBoxesUptoRow.holds Try.pinned (OpenSpec.upto fnBoxesSpec)

/-- 'laws.FnAllBoxes', WHERE WHAT IT READS IS OF BULK AT MOST 1048576: true; the input reads as it did. -/
def fnAllBoxesUptoRow : OpenClaim := { program := "ytcmlckgdhnffmaa", sum := "35971880e6d3a0efa6aa0c7d9a2fcb9710625a43ab0c7daa0f8abc59d9390ad6", func := "loop.example/g00102/laws.FnAllBoxes", spec := "fnAllBoxes", unfollowed := true, recurses := true, apart := false, narrowed := true }
def FnAllBoxesUptoSaid : Prop := fnAllBoxesUptoRow.holds Try.pinned (OpenSpec.upto fnAllBoxesSpec)

/-- 'laws.FnExactBoxesOf', WHERE WHAT IT READS IS OF BULK AT MOST 1048576: true; the input reads as it did. -/
def fnExactBoxesOfUptoRow : OpenClaim := { program := "ytcmlckgdhnffmaa", sum := "35971880e6d3a0efa6aa0c7d9a2fcb9710625a43ab0c7daa0f8abc59d9390ad6", func := "loop.example/g00102/laws.FnExactBoxesOf", spec := "fnExactBoxesOf", unfollowed := true, recurses := true, apart := false, narrowed := true }
def FnExactBoxesOfUptoSaid : Prop := fnExactBoxesOfUptoRow.holds Try.pinned (OpenSpec.upto fnExactBoxesOfSpec)

/-- 'laws.FnExactBoxIn', WHERE WHAT IT READS IS OF BULK AT MOST 1048576: true; the input reads as it did. -/
def fnExactBoxInUptoRow : OpenClaim := { program := "ytcmlckgdhnffmaa", sum := "35971880e6d3a0efa6aa0c7d9a2fcb9710625a43ab0c7daa0f8abc59d9390ad6", func := "loop.example/g00102/laws.FnExactBoxIn", spec := "fnExactBoxIn", unfollowed := true, recurses := true, apart := false, narrowed := true }
def FnExactBoxInUptoSaid : Prop := fnExactBoxInUptoRow.holds Try.pinned (OpenSpec.upto fnExactBoxInSpec)

end Rows
end Go.Proofs.Ytcmlckgdhnffmaa
