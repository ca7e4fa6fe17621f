/-
  No cell of these rows narrows 'for every input' (looked for: loops, veiled, ifaces, maps, wideKeys, modest, calm, conditions, laid).
  DERIVED. THE GIVEN ROWS OF THIS SEAT. 7 by the template 'for every input the law returns true; each argument reads behind the call as it read before'; 0 by the template 'total and deterministic' (their statements: YthdclobnmicdaaaTotals.lean).
  GIVEN WITH THE SEED: the statements are not yours to turn. If you find one false, say at which input.
  Laid BY PROGRAM, IN A SANDBOX (cutbox-rows.mjs): the forced cells as the released guide's own fill.sh prints them over the translation 2ef618445217f64c… (all of the seat's roots in one cut). By AI agents, Wed Nov 11 2026. No macro, syntax, notation, axiom, sorry.
-/
import Derived.Test.YthdclobnmicdaaaChecked
import GoSem.Claim
import GoSem.ClaimJoined
import GoSem.ClaimMapViews
import Derived.JoinedTies
import Derived.KernelRfl
namespace Go.Proofs.Ythdclobnmicdaaa
/- THE CELL 'sum', in the pinned program and in every row, IS THE sha256 OF THE DUMP (.gsa) THAT YthdclobnmicdaaaProg.lean LOADS. Nothing in Lean hashes anything: it is a label: what it is worth is what the hold of that sum in a sandbox is worth. -/
noncomputable def Try.pinned : Pinned := { name := "ythdclobnmicdaaa", sum := "2ef618445217f64c6d155d23d0288d40190d6fa0d53dd921813d5ecb23fe9740", checked := Try.checked }
namespace Rows
def none {H : Type} : Left H := { results := [], args := [] }

/-- 'laws.FnExactAutoEmpty': WHATEVER THE INPUT: true; the input reads as it did. -/
def fnExactAutoEmptySpec : ChangeSpec := { name := "fnExactAutoEmpty", fn := fun _ => fun
  | [d] => { results := [.lit (.bool true)], args := [d] }
  | _ => none }
def fnExactAutoEmptyRow : OpenClaim := { program := "ythdclobnmicdaaa", sum := "2ef618445217f64c6d155d23d0288d40190d6fa0d53dd921813d5ecb23fe9740", func := "loop.example/g00102/laws.FnExactAutoEmpty", spec := "fnExactAutoEmpty", apart := false }
def FnExactAutoEmptySaid : Prop := fnExactAutoEmptyRow.holds Try.pinned (OpenSpec.ofChange fnExactAutoEmptySpec)

/-- ITS FALSE NEIGHBOUR: 'it returns false'. Refute it at one input. -/
def fnExactAutoEmptyWrong : ChangeSpec := { name := "fnExactAutoEmpty", fn := fun _ => fun
  | [d] => { results := [.lit (.bool false)], args := [d] }
  | _ => none }
def FnExactAutoEmptyWrongFalsely : Prop := fnExactAutoEmptyRow.holds Try.pinned (OpenSpec.ofChange fnExactAutoEmptyWrong)

/-- 'laws.FnExactAutoLive': WHATEVER THE INPUT: true; the input reads as it did. -/
def fnExactAutoLiveSpec : ChangeSpec := { name := "fnExactAutoLive", fn := fun _ => fun
  | [d] => { results := [.lit (.bool true)], args := [d] }
  | _ => none }
def fnExactAutoLiveRow : OpenClaim := { program := "ythdclobnmicdaaa", sum := "2ef618445217f64c6d155d23d0288d40190d6fa0d53dd921813d5ecb23fe9740", func := "loop.example/g00102/laws.FnExactAutoLive", spec := "fnExactAutoLive", apart := false }
def FnExactAutoLiveSaid : Prop := fnExactAutoLiveRow.holds Try.pinned (OpenSpec.ofChange fnExactAutoLiveSpec)

/-- ITS FALSE NEIGHBOUR: 'it returns false'. Refute it at one input. -/
def fnExactAutoLiveWrong : ChangeSpec := { name := "fnExactAutoLive", fn := fun _ => fun
  | [d] => { results := [.lit (.bool false)], args := [d] }
  | _ => none }
def FnExactAutoLiveWrongFalsely : Prop := fnExactAutoLiveRow.holds Try.pinned (OpenSpec.ofChange fnExactAutoLiveWrong)

/-- 'laws.FnExactAutoScc': WHATEVER THE INPUT: true; the input reads as it did. -/
def fnExactAutoSccSpec : ChangeSpec := { name := "fnExactAutoScc", fn := fun _ => fun
  | [d] => { results := [.lit (.bool true)], args := [d] }
  | _ => none }
def fnExactAutoSccRow : OpenClaim := { program := "ythdclobnmicdaaa", sum := "2ef618445217f64c6d155d23d0288d40190d6fa0d53dd921813d5ecb23fe9740", func := "loop.example/g00102/laws.FnExactAutoScc", spec := "fnExactAutoScc", apart := false }
def FnExactAutoSccSaid : Prop := fnExactAutoSccRow.holds Try.pinned (OpenSpec.ofChange fnExactAutoSccSpec)

/-- ITS FALSE NEIGHBOUR: 'it returns false'. Refute it at one input. -/
def fnExactAutoSccWrong : ChangeSpec := { name := "fnExactAutoScc", fn := fun _ => fun
  | [d] => { results := [.lit (.bool false)], args := [d] }
  | _ => none }
def FnExactAutoSccWrongFalsely : Prop := fnExactAutoSccRow.holds Try.pinned (OpenSpec.ofChange fnExactAutoSccWrong)

/-- 'laws.FnPath': WHATEVER THE INPUT: true; the input reads as it did. -/
def fnPathSpec : ChangeSpec := { name := "fnPath", fn := fun _ => fun
  | [d] => { results := [.lit (.bool true)], args := [d] }
  | _ => none }
def fnPathRow : OpenClaim := { program := "ythdclobnmicdaaa", sum := "2ef618445217f64c6d155d23d0288d40190d6fa0d53dd921813d5ecb23fe9740", func := "loop.example/g00102/laws.FnPath", spec := "fnPath", unfollowed := true, recurses := true, apart := false }
def FnPathSaid : Prop := fnPathRow.holds Try.pinned (OpenSpec.ofChange fnPathSpec)

/-- ITS FALSE NEIGHBOUR: 'it returns false'. Refute it at one input. -/
def fnPathWrong : ChangeSpec := { name := "fnPath", fn := fun _ => fun
  | [d] => { results := [.lit (.bool false)], args := [d] }
  | _ => none }
def FnPathWrongFalsely : Prop := fnPathRow.holds Try.pinned (OpenSpec.ofChange fnPathWrong)

/-- 'laws.FnExactPathWord': WHATEVER THE INPUT: true; the input reads as it did. -/
def fnExactPathWordSpec : ChangeSpec := { name := "fnExactPathWord", fn := fun _ => fun
  | [d1, d2, d3] => { results := [.lit (.bool true)], args := [d1, d2, d3] }
  | _ => none }
def fnExactPathWordRow : OpenClaim := { program := "ythdclobnmicdaaa", sum := "2ef618445217f64c6d155d23d0288d40190d6fa0d53dd921813d5ecb23fe9740", func := "loop.example/g00102/laws.FnExactPathWord", spec := "fnExactPathWord", unfollowed := true, recurses := true, apart := false }
def FnExactPathWordSaid : Prop := fnExactPathWordRow.holds Try.pinned (OpenSpec.ofChange fnExactPathWordSpec)

/-- ITS FALSE NEIGHBOUR: 'it returns false'. Refute it at one input. -/
def fnExactPathWordWrong : ChangeSpec := { name := "fnExactPathWord", fn := fun _ => fun
  | [d1, d2, d3] => { results := [.lit (.bool false)], args := [d1, d2, d3] }
  | _ => none }
def FnExactPathWordWrongFalsely : Prop := fnExactPathWordRow.holds Try.pinned (OpenSpec.ofChange fnExactPathWordWrong)

/-- 'laws.FnExactAutoPrune': WHATEVER THE INPUT: true; the input reads as it did. -/
def fnExactAutoPruneSpec : ChangeSpec := { name := "fnExactAutoPrune", fn := fun _ => fun
  | [d] => { results := [.lit (.bool true)], args := [d] }
  | _ => none }
def fnExactAutoPruneRow : OpenClaim := { program := "ythdclobnmicdaaa", sum := "2ef618445217f64c6d155d23d0288d40190d6fa0d53dd921813d5ecb23fe9740", func := "loop.example/g00102/laws.FnExactAutoPrune", spec := "fnExactAutoPrune", apart := false }
def FnExactAutoPruneSaid : Prop := fnExactAutoPruneRow.holds Try.pinned (OpenSpec.ofChange fnExactAutoPruneSpec)

/-- ITS FALSE NEIGHBOUR: 'it returns false'. Refute it at one input. -/
def fnExactAutoPruneWrong : ChangeSpec := { name := "fnExactAutoPrune", fn := fun _ => fun
  | [d] => { results := [.lit (.bool false)], args := [d] }
  | _ => none }
def FnExactAutoPruneWrongFalsely : Prop := fnExactAutoPruneRow.holds Try.pinned (OpenSpec.ofChange fnExactAutoPruneWrong)

/-- 'laws.FnExactGenTakes': WHATEVER THE INPUT: true; the input reads as it did. -/
def fnExactGenTakesSpec : ChangeSpec := { name := "fnExactGenTakes", fn := fun _ => fun
  | [d1, d2] => { results := [.lit (.bool true)], args := [d1, d2] }
  | _ => none }
def fnExactGenTakesRow : OpenClaim := { program := "ythdclobnmicdaaa", sum := "2ef618445217f64c6d155d23d0288d40190d6fa0d53dd921813d5ecb23fe9740", func := "loop.example/g00102/laws.FnExactGenTakes", spec := "fnExactGenTakes", apart := false }
def FnExactGenTakesSaid : Prop := fnExactGenTakesRow.holds Try.pinned (OpenSpec.ofChange fnExactGenTakesSpec)

/-- ITS FALSE NEIGHBOUR: 'it returns false'. Refute it at one input. -/
def fnExactGenTakesWrong : ChangeSpec := { name := "fnExactGenTakes", fn := fun _ => fun
  | [d1, d2] => { results := [.lit (.bool false)], args := [d1, d2] }
  | _ => none }
def FnExactGenTakesWrongFalsely : Prop := fnExactGenTakesRow.holds Try.pinned (OpenSpec.ofChange fnExactGenTakesWrong)

/- THE SECOND FORM. 'bulk': how many values and letters a reading holds, each counted each time it is reached (what is shared counts as often as it is met; a slice's spare places count too). A statement '..UptoSaid' is the law's where the arguments, and the package variables that the reading takes, are together of bulk at most 1048576: NARROWER than '..Said'. Prove '..Said' where nothing that the law and all that it calls make is longer than what came in: it says more and counts as full. Else prove '..UptoSaid'. A law counts once. -/
mutual
def uptoBulk {H : Type} : DataW H → Nat
  | .lit (.string bytes) => bytes.length + 1
  | .lit _ => 1
  | .nil => 1
  | .ptr d => uptoBulk d + 1
  | .slice elems spare => uptoBulkAll elems + uptoBulkAll spare + 1
  | .agg parts => uptoBulkAll parts + 1
  | .iface _ d => uptoBulk d + 1
  | .map entries => uptoBulkEntries entries + 1
  | .held _ => 1
def uptoBulkAll {H : Type} : List (DataW H) → Nat
  | [] => 0
  | d :: r => uptoBulk d + uptoBulkAll r
def uptoBulkEntries {H : Type} : List (Lit × DataW H) → Nat
  | [] => 0
  | x :: r => uptoBulkEntry x + uptoBulkEntries r
def uptoBulkEntry {H : Type} : Lit × DataW H → Nat
  | (.string bytes, d) => bytes.length + uptoBulk d + 1
  | (_, d) => uptoBulk d + 1
 end
def uptoSmall : (H : Type) → List (DataW H) → Bool := fun _ ds => decide (uptoBulkAll ds ≤ 1048576)
def OpenSpec.upto (s : _root_.Go.ChangeSpec) : _root_.Go.OpenSpec := { _root_.Go.OpenSpec.ofChange s with cond := some uptoSmall }

/-- 'laws.FnExactAutoEmpty', WHERE WHAT IT READS IS OF BULK AT MOST 1048576: true; the input reads as it did. -/
def fnExactAutoEmptyUptoRow : OpenClaim := { program := "ythdclobnmicdaaa", sum := "2ef618445217f64c6d155d23d0288d40190d6fa0d53dd921813d5ecb23fe9740", func := "loop.example/g00102/laws.FnExactAutoEmpty", spec := "fnExactAutoEmpty", apart := false, narrowed := true }
def FnExactAutoEmptyUptoSaid : Prop := fnExactAutoEmptyUptoRow.holds Try.pinned (OpenSpec.upto fnExactAutoEmptySpec)

/-- 'laws.FnExactAutoLive', WHERE WHAT IT READS IS OF BULK AT MOST 1048576: true; the input reads as it did. -/
def fnExactAutoLiveUptoRow : OpenClaim := { program := "ythdclobnmicdaaa", sum := "2ef618445217f64c6d155d23d0288d40190d6fa0d53dd921813d5ecb23fe9740", func := "loop.example/g00102/laws.FnExactAutoLive", spec := "fnExactAutoLive", apart := false, narrowed := true }
def FnExactAutoLiveUptoSaid : Prop := fnExactAutoLiveUptoRow.holds Try.pinned (OpenSpec.upto fnExactAutoLiveSpec)

/-- 'laws.FnExactAutoScc', WHERE WHAT IT READS IS OF BULK AT MOST 1048576: true; the input reads as it did. -/
def fnExactAutoSccUptoRow : OpenClaim := { program := "ythdclobnmicdaaa", sum := "2ef618445217f64c6d155d23d0288d40190d6fa0d53dd921813d5ecb23fe9740", func := "loop.example/g00102/laws.FnExactAutoScc", spec := "fnExactAutoScc", apart := false, narrowed := true }
def FnExactAutoSccUptoSaid : Prop := fnExactAutoSccUptoRow.holds Try.pinned (OpenSpec.upto fnExactAutoSccSpec)

/-- 'laws.FnPath', WHERE WHAT IT READS IS OF BULK AT MOST 1048576: true; the input reads as it did. -/
def fnPathUptoRow : OpenClaim := { program := "ythdclobnmicdaaa", sum := "2ef618445217f64c6d155d23d0288d40190d6fa0d53dd921813d5ecb23fe9740", func := "loop.example/g00102/laws.FnPath", spec := "fnPath", unfollowed := true, recurses := true, apart := false, narrowed := true }
def FnPathUptoSaid : Prop := fnPathUptoRow.holds Try.pinned (OpenSpec.upto fnPathSpec)

/-- 'laws.FnExactPathWord', WHERE WHAT IT READS IS OF BULK AT MOST 1048576: true; the input reads as it did. -/
def fnExactPathWordUptoRow : OpenClaim := { program := "ythdclobnmicdaaa", sum := "2ef618445217f64c6d155d23d0288d40190d6fa0d53dd921813d5ecb23fe9740", func := "loop.example/g00102/laws.FnExactPathWord", spec := "fnExactPathWord", unfollowed := true, recurses := true, apart := false, narrowed := true }
def FnExactPathWordUptoSaid : Prop := fnExactPathWordUptoRow.holds Try.pinned (OpenSpec.upto fnExactPathWordSpec)

/-- 'laws.FnExactAutoPrune', WHERE WHAT IT READS IS OF BULK AT MOST 1048576: true; the input reads as it did. -/
def fnExactAutoPruneUptoRow : OpenClaim := { program := "ythdclobnmicdaaa", sum := "2ef618445217f64c6d155d23d0288d40190d6fa0d53dd921813d5ecb23fe9740", func := "loop.example/g00102/laws.FnExactAutoPrune", spec := "fnExactAutoPrune", apart := false, narrowed := true }
def FnExactAutoPruneUptoSaid : Prop := fnExactAutoPruneUptoRow.holds Try.pinned (OpenSpec.upto fnExactAutoPruneSpec)

/-- 'laws.FnExactGenTakes', WHERE WHAT IT READS IS OF BULK AT MOST 1048576: true; the input reads as it did. -/
def fnExactGenTakesUptoRow : OpenClaim := { program := "ythdclobnmicdaaa", sum := "2ef618445217f64c6d155d23d0288d40190d6fa0d53dd921813d5ecb23fe9740", func := "loop.example/g00102/laws.FnExactGenTakes", spec := "fnExactGenTakes", apart := false, narrowed := true }
def FnExactGenTakesUptoSaid : Prop := fnExactGenTakesUptoRow.holds Try.pinned (OpenSpec.upto fnExactGenTakesSpec)

end Rows
end Go.Proofs.Ythdclobnmicdaaa
