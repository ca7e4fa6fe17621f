/-
  No cell of these rows narrows 'for every input' (looked for: loops, veiled, ifaces, maps, wideKeys, modest, calm, conditions, laid).
  DERIVED. THE GIVEN ROWS OF THIS SEAT. 5 by the template 'for every input the law returns true; each argument reads behind the call as it read before'; 0 by the template 'total and deterministic' (their statements: YtcmbbpdepobnlaaTotals.lean).
  GIVEN WITH THE SEED: the statements are not yours to turn. If you find one false, say at which input.
  Laid BY PROGRAM, IN A SANDBOX (cutbox-rows.mjs): the forced cells as the released guide's own fill.sh prints them over the translation fc2bfa15de7f63a8… (all of the seat's roots in one cut). By AI agents, Wed Nov 11 2026. No macro, syntax, notation, axiom, sorry.
-/
import Derived.Test.YtcmbbpdepobnlaaChecked
import GoSem.Claim
import GoSem.ClaimJoined
import GoSem.ClaimMapViews
import Derived.JoinedTies
import Derived.KernelRfl
namespace Go.Proofs.Ytcmbbpdepobnlaa
/- THE CELL 'sum', in the pinned program and in every row, IS THE sha256 OF THE DUMP (.gsa) THAT YtcmbbpdepobnlaaProg.lean LOADS. Nothing in Lean hashes anything: it is a label: what it is worth is what the hold of that sum in a sandbox is worth. -/
noncomputable def Try.pinned : Pinned := { name := "ytcmbbpdepobnlaa", sum := "fc2bfa15de7f63a82d6c7a69aabb428ed62423852f978bab70b4317262ebc2f5", checked := Try.checked }
namespace Rows
def none {H : Type} : Left H := { results := [], args := [] }

/-- 'laws.FnBoxWord': WHATEVER THE INPUT: true; the input reads as it did. -/
def fnBoxWordSpec : ChangeSpec := { name := "fnBoxWord", fn := fun _ => fun
  | [d] => { results := [.lit (.bool true)], args := [d] }
  | _ => none }
def fnBoxWordRow : OpenClaim := { program := "ytcmbbpdepobnlaa", sum := "fc2bfa15de7f63a82d6c7a69aabb428ed62423852f978bab70b4317262ebc2f5", func := "loop.example/g00102/laws.FnBoxWord", spec := "fnBoxWord", apart := false }
def FnBoxWordSaid : Prop := fnBoxWordRow.holds Try.pinned (OpenSpec.ofChange fnBoxWordSpec)

/-- ITS FALSE NEIGHBOUR: 'it returns false'. Refute it at one input. -/
def fnBoxWordWrong : ChangeSpec := { name := "fnBoxWord", fn := fun _ => fun
  | [d] => { results := [.lit (.bool false)], args := [d] }
  | _ => none }
def FnBoxWordWrongFalsely : Prop := fnBoxWordRow.holds Try.pinned (OpenSpec.ofChange fnBoxWordWrong)

/-- 'laws.FnBoxes': WHATEVER THE INPUT: true; the input reads as it did. -/
def fnBoxesSpec : ChangeSpec := { name := "fnBoxes", fn := fun _ => fun
  | [d] => { results := [.lit (.bool true)], args := [d] }
  | _ => none }
def fnBoxesRow : OpenClaim := { program := "ytcmbbpdepobnlaa", sum := "fc2bfa15de7f63a82d6c7a69aabb428ed62423852f978bab70b4317262ebc2f5", func := "loop.example/g00102/laws.FnBoxes", spec := "fnBoxes", apart := false }
def FnBoxesSaid : Prop := fnBoxesRow.holds Try.pinned (OpenSpec.ofChange fnBoxesSpec)

/-- ITS FALSE NEIGHBOUR: 'it returns false'. Refute it at one input. -/
def fnBoxesWrong : ChangeSpec := { name := "fnBoxes", fn := fun _ => fun
  | [d] => { results := [.lit (.bool false)], args := [d] }
  | _ => none }
def FnBoxesWrongFalsely : Prop := fnBoxesRow.holds Try.pinned (OpenSpec.ofChange fnBoxesWrong)

/-- 'laws.FnAllBoxes': WHATEVER THE INPUT: true; the input reads as it did. -/
def fnAllBoxesSpec : ChangeSpec := { name := "fnAllBoxes", fn := fun _ => fun
  | [d] => { results := [.lit (.bool true)], args := [d] }
  | _ => none }
def fnAllBoxesRow : OpenClaim := { program := "ytcmbbpdepobnlaa", sum := "fc2bfa15de7f63a82d6c7a69aabb428ed62423852f978bab70b4317262ebc2f5", func := "loop.example/g00102/laws.FnAllBoxes", spec := "fnAllBoxes", unfollowed := true, recurses := true, apart := false }
def FnAllBoxesSaid : Prop := fnAllBoxesRow.holds Try.pinned (OpenSpec.ofChange fnAllBoxesSpec)

/-- ITS FALSE NEIGHBOUR: 'it returns false'. Refute it at one input. -/
def fnAllBoxesWrong : ChangeSpec := { name := "fnAllBoxes", fn := fun _ => fun
  | [d] => { results := [.lit (.bool false)], args := [d] }
  | _ => none }
def FnAllBoxesWrongFalsely : Prop := fnAllBoxesRow.holds Try.pinned (OpenSpec.ofChange fnAllBoxesWrong)

/-- 'laws.FnExactBoxesOf': WHATEVER THE INPUT: true; the input reads as it did. -/
def fnExactBoxesOfSpec : ChangeSpec := { name := "fnExactBoxesOf", fn := fun _ => fun
  | [d] => { results := [.lit (.bool true)], args := [d] }
  | _ => none }
def fnExactBoxesOfRow : OpenClaim := { program := "ytcmbbpdepobnlaa", sum := "fc2bfa15de7f63a82d6c7a69aabb428ed62423852f978bab70b4317262ebc2f5", func := "loop.example/g00102/laws.FnExactBoxesOf", spec := "fnExactBoxesOf", unfollowed := true, recurses := true, apart := false }
def FnExactBoxesOfSaid : Prop := fnExactBoxesOfRow.holds Try.pinned (OpenSpec.ofChange fnExactBoxesOfSpec)

/-- ITS FALSE NEIGHBOUR: 'it returns false'. Refute it at one input. -/
def fnExactBoxesOfWrong : ChangeSpec := { name := "fnExactBoxesOf", fn := fun _ => fun
  | [d] => { results := [.lit (.bool false)], args := [d] }
  | _ => none }
def FnExactBoxesOfWrongFalsely : Prop := fnExactBoxesOfRow.holds Try.pinned (OpenSpec.ofChange fnExactBoxesOfWrong)

/-- 'laws.FnExactBoxIn': WHATEVER THE INPUT: true; the input reads as it did. -/
def fnExactBoxInSpec : ChangeSpec := { name := "fnExactBoxIn", fn := fun _ => fun
  | [d1, d2] => { results := [.lit (.bool true)], args := [d1, d2] }
  | _ => none }
def fnExactBoxInRow : OpenClaim := { program := "ytcmbbpdepobnlaa", sum := "fc2bfa15de7f63a82d6c7a69aabb428ed62423852f978bab70b4317262ebc2f5", func := "loop.example/g00102/laws.FnExactBoxIn", spec := "fnExactBoxIn", unfollowed := true, recurses := true, apart := false }
def FnExactBoxInSaid : Prop := fnExactBoxInRow.holds Try.pinned (OpenSpec.ofChange fnExactBoxInSpec)

/-- ITS FALSE NEIGHBOUR: 'it returns false'. Refute it at one input. -/
def fnExactBoxInWrong : ChangeSpec := { name := "fnExactBoxIn", fn := fun _ => fun
  | [d1, d2] => { results := [.lit (.bool false)], args := [d1, d2] }
  | _ => none }
def FnExactBoxInWrongFalsely : Prop := fnExactBoxInRow.holds Try.pinned (OpenSpec.ofChange fnExactBoxInWrong)

/- THE SECOND FORM. 'bulk': how many values and letters a reading holds, each counted each time it is reached (what is shared counts as often as it is met; a slice's spare places count too). A statement '..UptoSaid' is the law's where the arguments, and the package variables that the reading takes, are together of bulk at most 1048576: NARROWER than '..Said'. Prove '..Said' where nothing that the law and all that it calls make is longer than what came in: it says more and counts as full. Else prove '..UptoSaid'. A law counts once. -/
mutual
def uptoBulk {H : Type} : DataW H → Nat
  | .lit (.string bytes) => bytes.length + 1
  | .lit _ => 1
  | .nil => 1
  | .ptr d => uptoBulk d + 1
  | .slice elems spare => uptoBulkAll elems + uptoBulkAll spare + 1
  | .agg parts => uptoBulkAll parts + 1
  | .iface _ d => uptoBulk d + 1
  | .map entries => uptoBulkEntries entries + 1
  | .held _ => 1
def uptoBulkAll {H : Type} : List (DataW H) → Nat
  | [] => 0
  | d :: r => uptoBulk d + uptoBulkAll r
def uptoBulkEntries {H : Type} : List (Lit × DataW H) → Nat
  | [] => 0
  | x :: r => uptoBulkEntry x + uptoBulkEntries r
def uptoBulkEntry {H : Type} : Lit × DataW H → Nat
  | (.string bytes, d) => bytes.length + uptoBulk d + 1
  | (_, d) => uptoBulk d + 1
 end
def uptoSmall : (H : Type) → List (DataW H) → Bool := fun _ ds => decide (uptoBulkAll ds ≤ 1048576)
def OpenSpec.upto (s : _root_.Go.ChangeSpec) : _root_.Go.OpenSpec := { _root_.Go.OpenSpec.ofChange s with cond := some uptoSmall }

/-- 'laws.FnBoxWord', WHERE WHAT IT READS IS OF BULK AT MOST 1048576: true; the input reads as it did. -/
def fnBoxWordUptoRow : OpenClaim := { program := "ytcmbbpdepobnlaa", sum := "fc2bfa15de7f63a82d6c7a69aabb428ed62423852f978bab70b4317262ebc2f5", func := "loop.example/g00102/laws.FnBoxWord", spec := "fnBoxWord", apart := false, narrowed := true }
def FnBoxWordUptoSaid : Prop := fnBoxWordUptoRow.holds Try.pinned (OpenSpec.upto fnBoxWordSpec)

/-- 'laws.FnBoxes', WHERE WHAT IT READS IS OF BULK AT MOST 1048576: true; the input reads as it did. -/
def fnBoxesUptoRow : OpenClaim := { program := "ytcmbbpdepobnlaa", sum := "fc2bfa15de7f63a82d6c7a69aabb428ed62423852f978bab70b4317262ebc2f5", func := "loop.example/g00102/laws.FnBoxes", spec := "fnBoxes", apart := false, narrowed := true }
def FnBoxesUptoSaid : Prop := fnBoxesUptoRow.holds Try.pinned (OpenSpec.upto fnBoxesSpec)

/-- 'laws.FnAllBoxes', WHERE WHAT IT READS IS OF BULK AT MOST 1048576: true; the input reads as it did. -/
def fnAllBoxesUptoRow : OpenClaim := { program := "ytcmbbpdepobnlaa", sum := "fc2bfa15de7f63a82d6c7a69aabb428ed62423852f978bab70b4317262ebc2f5", func := "loop.example/g00102/laws.FnAllBoxes", spec := "fnAllBoxes", unfollowed := true, recurses := true, apart := false, narrowed := true }
def FnAllBoxesUptoSaid : Prop := fnAllBoxesUptoRow.holds Try.pinned (OpenSpec.upto fnAllBoxesSpec)

/-- 'laws.FnExactBoxesOf', WHERE WHAT IT READS IS OF BULK AT MOST 1048576: true; the input reads as it did. -/
def fnExactBoxesOfUptoRow : OpenClaim := { program := "ytcmbbpdepobnlaa", sum := "fc2bfa15de7f63a82d6c7a69aabb428ed62423852f978bab70b4317262ebc2f5", func := "loop.example/g00102/laws.FnExactBoxesOf", spec := "fnExactBoxesOf", unfollowed := true, recurses := true, apart := false, narrowed := true }
def FnExactBoxesOfUptoSaid : Prop := fnExactBoxesOfUptoRow.holds Try.pinned (OpenSpec.upto fnExactBoxesOfSpec)

/-- 'laws.FnExactBoxIn', WHERE WHAT IT READS IS OF BULK AT MOST 1048576: true; the input reads as it did. -/
def fnExactBoxInUptoRow : OpenClaim := { program := "ytcmbbpdepobnlaa", sum := "fc2bfa15de7f63a82d6c7a69aabb428ed62423852f978bab70b4317262ebc2f5", func := "loop.example/g00102/laws.FnExactBoxIn", spec := "fnExactBoxIn", unfollowed := true, recurses := true, apart := false, narrowed := true }
def FnExactBoxInUptoSaid : Prop := fnExactBoxInUptoRow.holds Try.pinned (OpenSpec.upto fnExactBoxInSpec)

end Rows
end Go.Proofs.Ytcmbbpdepobnlaa
