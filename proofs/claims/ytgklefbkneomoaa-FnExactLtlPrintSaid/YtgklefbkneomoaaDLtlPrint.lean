/- Plain functions that the program's functions come to: FnExactLtlPrint. -/
import Derived.Test.YtgklefbkneomoaaTy
import Derived.Test.YtgklefbkneomoaaDLtlTemporal
namespace Go.Proofs.Ytgklefbkneomoaa
open Go Go.RowKit E
set_option linter.unusedVariables false
noncomputable def spec_l2Digit (p0 : Int) : ByteArray := (bstr ([(IntKind.u8.wrap ((W (48 + p0))))]))

noncomputable def spec_l8Sign (p0 : Int) : ByteArray := (if p0 = 4 then { data := #[33] } else (if p0 = 5 then { data := #[38] } else (if p0 = 6 then { data := #[124] } else (if p0 = 7 then { data := #[88] } else (if p0 = 8 then { data := #[85] } else (if p0 = 9 then { data := #[82] } else (if p0 = 10 then { data := #[70] } else (if p0 = 11 then { data := #[71] } else { data := #[] }))))))))

noncomputable def spec_l8Print.body (rec_spec_l8Print : (List TNode) → Int → Option ByteArray) (p0 : (List TNode)) (p1 : Int) : Option ByteArray := (ix p0 p1).bind fun a8 => (if a8.kind = 1 then some ({ data := #[116] }) else (if a8.kind = 2 then some ({ data := #[102] }) else (if a8.kind = 3 then some ((spec_l2Digit a8.a)) else (if ((spec_l8Parts a8.kind)) = 1 then (rec_spec_l8Print p0 a8.a).bind fun a31 => (cat ((spec_l8Sign a8.kind)) a31).bind fun a32 => some a32 else (rec_spec_l8Print p0 a8.a).bind fun a36 => (cat ({ data := #[40] }) a36).bind fun a37 => (cat a37 ((spec_l8Sign a8.kind))).bind fun a41 => (rec_spec_l8Print p0 a8.b).bind fun a45 => (cat a41 a45).bind fun a46 => (cat a46 ({ data := #[41] })).bind fun a47 => some a47))))
noncomputable def spec_l8Print : Nat → (List TNode) → Int → Option ByteArray
  | 0 => fun _ _ => none
  | K + 1 => spec_l8Print.body (spec_l8Print K)

noncomputable def spec_LtlPrint (K : Nat) (p0 : (List TNode)) : Option ByteArray := (spec_LtlOk p0).bind fun a4 => (if (!a4) = true then some ({ data := #[] }) else (spec_l8Print K p0 ((W (((p0.length : Int)) - 1)))).bind fun a10 => some a10)

noncomputable def impl_signOf (p0 : Int) : Option ByteArray := (if (!(impl_inRange p0 1 11)) = true then some ({ data := #[] }) else (ix ([{ data := #[116] }, { data := #[102] }, { data := #[] }, { data := #[33] }, { data := #[38] }, { data := #[124] }, { data := #[88] }, { data := #[85] }, { data := #[82] }, { data := #[70] }, { data := #[71] }]) ((W (p0 - 1)))).bind fun a9 => some a9)

noncomputable def impl_digit (p0 : Int) : ByteArray := (bstr ([(IntKind.u8.wrap ((W (48 + p0))))]))

noncomputable def impl_printed.k0 (p0 : (List TNode)) (y3 : (List ByteArray)) : Option ByteArray := (ix y3 ((W (((p0.length : Int)) - 1)))).bind fun a75 => some a75
noncomputable def impl_printed.b0 (p0 : (List TNode)) (g1 : (TNode → Option Int)) (y5 : (List ByteArray)) (x14_l0 : Int) : Option (((List ByteArray) × Int) ⊕ (List ByteArray)) := (if x14_l0 < ((p0.length : Int)) then (ix p0 x14_l0).bind fun a17 => (impl_signOf a17.kind).bind fun a21 => (g1 a17).bind fun a24 => (if a24 = 0 then (ck x14_l0 y5.length).bind fun m48 => (if a17.kind = 3 then (ck x14_l0 ((y5.set m48 a21)).length).bind fun m57 => some (.inl (((((y5.set m48 a21)).set m57 ((impl_digit a17.a))), (W (x14_l0 + 1))))) else some (.inl (((y5.set m48 a21), (W (x14_l0 + 1)))))) else (if a24 = 1 then (ix y5 a17.a).bind fun a66 => (cat a21 a66).bind fun a68 => (ck x14_l0 y5.length).bind fun m69 => some (.inl (((y5.set m69 a68), (W (x14_l0 + 1))))) else (ix y5 a17.a).bind fun a30 => (cat ({ data := #[40] }) a30).bind fun a32 => (cat a32 a21).bind fun a34 => (ix y5 a17.b).bind fun a38 => (cat a34 a38).bind fun a40 => (cat a40 ({ data := #[41] })).bind fun a41 => (ck x14_l0 y5.length).bind fun m42 => some (.inl (((y5.set m42 a41), (W (x14_l0 + 1))))))) else some (.inr y5))
noncomputable def impl_printed (p0 : (List TNode)) (g1 : (TNode → Option Int)) : Option ByteArray := (mk 16 (⟨#[]⟩ : ByteArray) ((p0.length : Int))).bind fun z11 => (loop (fun s : ((List ByteArray) × Int) => impl_printed.b0 p0 g1 s.1 s.2) ((z11, 0))).bind (fun q => impl_printed.k0 p0 q)

noncomputable def impl_LtlPrint (p0 : (List TNode)) : Option ByteArray := (impl_LtlOk p0).bind fun a4 => (if (!a4) = true then some ({ data := #[] }) else (impl_printed p0 ((fun q0 => some (impl_ltlParts q0)))).bind fun a7 => some a7)

noncomputable def laws_FnExactLtlPrint (K : Nat) (p0 : (List TNode)) : Option Bool := (if ((laws_szNodeS p0 1048576)) < 0 then some true else (laws_toNodeS p0).bind fun a13 => (spec_LtlPrint K a13).bind fun a14 => (laws_toNodeS p0).bind fun a16 => (impl_LtlPrint a16).bind fun a18 => (if (!(a18.toList == a14.toList)) = true then some false else (laws_toNodeS p0).bind fun a24 => (laws_eqNodeS a16 a24).bind fun a25 => (if (!a25) = true then some false else some true)))

end Go.Proofs.Ytgklefbkneomoaa
