/- Plain functions that the program's functions come to: FnExactReNull. -/
import Derived.Test.YtpikdepigcmfnaaTy
import Derived.Test.YtpikdepigcmfnaaDReOk
namespace Go.Proofs.Ytpikdepigcmfnaa
open Go Go.RowKit E
set_option linter.unusedVariables false
noncomputable def spec_l11Null.k0 (a8 : TNode) (rec_spec_l11Null : (List TNode) → Int → Option Bool) (p0 : (List TNode)) (x12_1 : Bool) : Option Bool := (if x12_1 = true then some true else (if a8.kind = 5 then (rec_spec_l11Null p0 a8.a).bind fun a20 => (whenO a20 (rec_spec_l11Null p0 a8.b)).bind fun a25 => some ((a20 && a25)) else (if a8.kind = 6 then (rec_spec_l11Null p0 a8.a).bind fun a32 => (whenO (!a32) (rec_spec_l11Null p0 a8.b)).bind fun a37 => some ((a32 || a37)) else some false)))
noncomputable def spec_l11Null.body (rec_spec_l11Null : (List TNode) → Int → Option Bool) (p0 : (List TNode)) (p1 : Int) : Option Bool := (ix p0 p1).bind fun a8 => (if a8.kind = 2 then spec_l11Null.k0 a8 rec_spec_l11Null p0 ((decide (a8.kind = 2))) else spec_l11Null.k0 a8 rec_spec_l11Null p0 ((decide (a8.kind = 4))))
noncomputable def spec_l11Null : Nat → (List TNode) → Int → Option Bool
  | 0 => fun _ _ => none
  | K + 1 => spec_l11Null.body (spec_l11Null K)

noncomputable def spec_ReNull (K : Nat) (p0 : (List TNode)) : Option Bool := (spec_ReOk p0).bind fun a4 => (whenO a4 (spec_l11Null K p0 ((W (((p0.length : Int)) - 1))))).bind fun a10 => some ((a4 && a10))

noncomputable def impl_ends.k0 : Option Int := some 0
noncomputable def impl_ends.k1 (x10_2 : Int) : Option Int := some x10_2
noncomputable def impl_ends.b0 (p2 : (List Int)) (a16 : TNode) (p3 : Int) (x10_l0 : Int) (x27_l0 : Int) : Option ((Int × Int) ⊕ Int) := (if x27_l0 < ((p2.length : Int)) then (ix p2 x27_l0).bind fun a30 => bnd ((decide (a30 = a16.a))) fun c36 => (if (c36 && (decide (((bAnd .u64 ((shr .u64 p3 ((IntKind.u64.wrap x27_l0)))) 1)) = 1))) = true then some (.inl (((bOr .u64 x10_l0 ((shl .u64 1 ((IntKind.u64.wrap ((W (x27_l0 + 1)))))))), (W (x27_l0 + 1))))) else some (.inl ((x10_l0, (W (x27_l0 + 1)))))) else some (.inr x10_l0))
noncomputable def impl_ends.b1 (rec_impl_ends : (List TNode) → Int → (List Int) → Int → Option Int) (p0 : (List TNode)) (a16 : TNode) (p2 : (List Int)) (x3_l1 : Int) : Option (Int ⊕ Int) := (rec_impl_ends p0 a16.a p2 x3_l1).bind fun a60 => (if ((bOr .u64 x3_l1 a60)) = x3_l1 then some (.inr x3_l1) else some (.inl ((bOr .u64 x3_l1 a60))))
noncomputable def impl_ends.body (rec_impl_ends : (List TNode) → Int → (List Int) → Int → Option Int) (p0 : (List TNode)) (p1 : Int) (p2 : (List Int)) (p3 : Int) : Option Int := (ix p0 p1).bind fun a16 => (if a16.kind = 2 then some p3 else (if a16.kind = 3 then (loop (fun s : (Int × Int) => impl_ends.b0 p2 a16 p3 s.1 s.2) ((0, 0))).bind (fun q => impl_ends.k1 q) else (if a16.kind = 4 then (loop (fun s : Int => impl_ends.b1 rec_impl_ends p0 a16 p2 s) p3).bind (fun q => some q) else (if a16.kind = 5 then (rec_impl_ends p0 a16.a p2 p3).bind fun a78 => (rec_impl_ends p0 a16.b p2 a78).bind fun a79 => some a79 else (if a16.kind = 6 then (rec_impl_ends p0 a16.a p2 p3).bind fun a87 => (rec_impl_ends p0 a16.b p2 p3).bind fun a93 => some ((bOr .u64 a87 a93)) else impl_ends.k0)))))
noncomputable def impl_ends : Nat → (List TNode) → Int → (List Int) → Int → Option Int
  | 0 => fun _ _ _ _ => none
  | K + 1 => impl_ends.body (impl_ends K)

noncomputable def impl_ReTakes (K : Nat) (p0 : (List TNode)) (p1 : (List Int)) : Option Bool := bnd ((decide (((p1.length : Int)) > 60))) fun c8 => (whenO (!c8) (impl_ReOk p0)).bind fun a10 => (if (c8 || (!a10)) = true then some false else (impl_ends K p0 ((W (((p0.length : Int)) - 1))) p1 1).bind fun a18 => some ((decide (((bAnd .u64 ((shr .u64 a18 ((IntKind.u64.wrap ((p1.length : Int)))))) 1)) = 1))))

noncomputable def impl_ReNull (K : Nat) (p0 : (List TNode)) : Option Bool := (impl_ReTakes K p0 ([])).bind fun a4 => some a4

noncomputable def laws_FnExactReNull (K : Nat) (p0 : (List TNode)) : Option Bool := (if ((laws_szNodeS p0 1048576)) < 0 then some true else (laws_toNodeS p0).bind fun a13 => (spec_ReNull K a13).bind fun a14 => (laws_toNodeS p0).bind fun a16 => (impl_ReNull K a16).bind fun a18 => (if (!(a18 == a14)) = true then some false else (laws_toNodeS p0).bind fun a24 => (laws_eqNodeS a16 a24).bind fun a25 => (if (!a25) = true then some false else some true)))

end Go.Proofs.Ytpikdepigcmfnaa
