/- Plain functions that the program's functions come to: FnExactRePrint. -/
import Derived.Test.YtpikdepigcmfnaaTy
import Derived.Test.YtpikdepigcmfnaaDReOk
namespace Go.Proofs.Ytpikdepigcmfnaa
open Go Go.RowKit E
set_option linter.unusedVariables false
noncomputable def spec_l2Digit (p0 : Int) : ByteArray := (bstr ([(IntKind.u8.wrap ((W (48 + p0))))]))

noncomputable def spec_l11Print.body (rec_spec_l11Print : (List TNode) → Int → Option ByteArray) (p0 : (List TNode)) (p1 : Int) : Option ByteArray := (ix p0 p1).bind fun a8 => (if a8.kind = 1 then some ({ data := #[64] }) else (if a8.kind = 2 then some ({ data := #[95] }) else (if a8.kind = 3 then some ((spec_l2Digit a8.a)) else (if a8.kind = 4 then (rec_spec_l11Print p0 a8.a).bind fun a26 => (cat a26 ({ data := #[42] })).bind fun a27 => some a27 else (if a8.kind = 5 then (rec_spec_l11Print p0 a8.a).bind fun a33 => (cat ({ data := #[40] }) a33).bind fun a34 => (cat a34 ({ data := #[46] })).bind fun a35 => (rec_spec_l11Print p0 a8.b).bind fun a39 => (cat a35 a39).bind fun a40 => (cat a40 ({ data := #[41] })).bind fun a41 => some a41 else (rec_spec_l11Print p0 a8.a).bind fun a45 => (cat ({ data := #[40] }) a45).bind fun a46 => (cat a46 ({ data := #[124] })).bind fun a47 => (rec_spec_l11Print p0 a8.b).bind fun a51 => (cat a47 a51).bind fun a52 => (cat a52 ({ data := #[41] })).bind fun a53 => some a53)))))
noncomputable def spec_l11Print : Nat → (List TNode) → Int → Option ByteArray
  | 0 => fun _ _ => none
  | K + 1 => spec_l11Print.body (spec_l11Print K)

noncomputable def spec_RePrint (K : Nat) (p0 : (List TNode)) : Option ByteArray := (spec_ReOk p0).bind fun a4 => (if (!a4) = true then some ({ data := #[] }) else (spec_l11Print K p0 ((W (((p0.length : Int)) - 1)))).bind fun a10 => some a10)

noncomputable def impl_digit (p0 : Int) : ByteArray := (bstr ([(IntKind.u8.wrap ((W (48 + p0))))]))

noncomputable def impl_RePrint.k0 (p0 : (List TNode)) (y4 : (List ByteArray)) : Option ByteArray := (ix y4 ((W (((p0.length : Int)) - 1)))).bind fun a93 => some a93
noncomputable def impl_RePrint.k1 (x14_l0 : Int) (y14 : (List ByteArray)) : Option (((List ByteArray) × Int) ⊕ (List ByteArray)) := some (.inl ((y14, (W (x14_l0 + 1)))))
noncomputable def impl_RePrint.b0 (p0 : (List TNode)) (y6 : (List ByteArray)) (x14_l0 : Int) : Option (((List ByteArray) × Int) ⊕ (List ByteArray)) := (if x14_l0 < ((p0.length : Int)) then (ix p0 x14_l0).bind fun a17 => (if a17.kind = 1 then (ck x14_l0 y6.length).bind fun m25 => impl_RePrint.k1 x14_l0 ((y6.set m25 ({ data := #[64] }))) else (if a17.kind = 2 then (ck x14_l0 y6.length).bind fun m30 => impl_RePrint.k1 x14_l0 ((y6.set m30 ({ data := #[95] }))) else (if a17.kind = 3 then (ck x14_l0 y6.length).bind fun m38 => impl_RePrint.k1 x14_l0 ((y6.set m38 ((impl_digit a17.a)))) else (if a17.kind = 4 then (ix y6 a17.a).bind fun a46 => (cat a46 ({ data := #[42] })).bind fun a48 => (ck x14_l0 y6.length).bind fun m49 => impl_RePrint.k1 x14_l0 ((y6.set m49 a48)) else (if a17.kind = 5 then (ix y6 a17.a).bind fun a57 => (cat ({ data := #[40] }) a57).bind fun a59 => (cat a59 ({ data := #[46] })).bind fun a60 => (ix y6 a17.b).bind fun a64 => (cat a60 a64).bind fun a66 => (cat a66 ({ data := #[41] })).bind fun a67 => (ck x14_l0 y6.length).bind fun m68 => impl_RePrint.k1 x14_l0 ((y6.set m68 a67)) else (if a17.kind = 6 then (ix y6 a17.a).bind fun a76 => (cat ({ data := #[40] }) a76).bind fun a78 => (cat a78 ({ data := #[124] })).bind fun a79 => (ix y6 a17.b).bind fun a83 => (cat a79 a83).bind fun a85 => (cat a85 ({ data := #[41] })).bind fun a86 => (ck x14_l0 y6.length).bind fun m87 => impl_RePrint.k1 x14_l0 ((y6.set m87 a86)) else impl_RePrint.k1 x14_l0 y6)))))) else some (.inr y6))
noncomputable def impl_RePrint (p0 : (List TNode)) : Option ByteArray := (impl_ReOk p0).bind fun a7 => (if (!a7) = true then some ({ data := #[] }) else (mk 16 (⟨#[]⟩ : ByteArray) ((p0.length : Int))).bind fun z11 => (loop (fun s : ((List ByteArray) × Int) => impl_RePrint.b0 p0 s.1 s.2) ((z11, 0))).bind (fun q => impl_RePrint.k0 p0 q))

noncomputable def laws_FnExactRePrint (K : Nat) (p0 : (List TNode)) : Option Bool := (if ((laws_szNodeS p0 1048576)) < 0 then some true else (laws_toNodeS p0).bind fun a13 => (spec_RePrint K a13).bind fun a14 => (laws_toNodeS p0).bind fun a16 => (impl_RePrint a16).bind fun a18 => (if (!(a18.toList == a14.toList)) = true then some false else (laws_toNodeS p0).bind fun a24 => (laws_eqNodeS a16 a24).bind fun a25 => (if (!a25) = true then some false else some true)))

end Go.Proofs.Ytpikdepigcmfnaa
