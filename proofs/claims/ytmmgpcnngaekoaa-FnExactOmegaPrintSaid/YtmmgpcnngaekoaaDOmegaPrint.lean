/- Plain functions that the program's functions come to: FnExactOmegaPrint. -/
import Derived.Test.YtmmgpcnngaekoaaTy
import Derived.Test.YtmmgpcnngaekoaaSJ0
namespace Go.Proofs.Ytmmgpcnngaekoaa
open Go Go.RowKit E
set_option linter.unusedVariables false
noncomputable def laws_szNodeS (p0 : (List TNode)) (p1 : Int) : Int := (if ((W (p1 - ((p0.length : Int))))) < 0 then (-1) else (W (p1 - ((p0.length : Int)))))

noncomputable def laws_szOmega (p0 : TOmega) (p1 : Int) : Int := (if ((laws_szNodeS p0.stem p1)) < 0 then (-1) else (if ((laws_szNodeS p0.loop ((laws_szNodeS p0.stem p1)))) < 0 then (-1) else (laws_szNodeS p0.loop ((laws_szNodeS p0.stem p1)))))

noncomputable def laws_szOmegaS.k0 (x1_1 : Int) : Option Int := some x1_1
noncomputable def laws_szOmegaS.b0 (p0 : (List TOmega)) (x1_l0 : Int) (x5_l0 : Int) : Option ((Int × Int) ⊕ (Int ⊕ Int)) := (if x5_l0 < ((p0.length : Int)) then (ix p0 x5_l0).bind fun a20 => (if ((laws_szOmega a20 x1_l0)) < 0 then some (.inr ((.inr ((-1))))) else some (.inl (((laws_szOmega a20 x1_l0), (W (x5_l0 + 1)))))) else some (.inr ((.inl x1_l0))))
noncomputable def laws_szOmegaS (p0 : (List TOmega)) (p1 : Int) : Option Int := (if ((W (p1 - ((p0.length : Int))))) < 0 then some ((-1)) else (loop (fun s : (Int × Int) => laws_szOmegaS.b0 p0 s.1 s.2) (((W (p1 - ((p0.length : Int)))), 0))).bind (Sum.elim (fun q => laws_szOmegaS.k0 q) (fun q => some q)))

noncomputable def laws_toNode (p0 : TNode) : TNode := p0

noncomputable def laws_toNodeS.k0 (y4 : (List TNode)) : Option (List TNode) := some y4
noncomputable def laws_toNodeS.b0 (p0 : (List TNode)) (y6 : (List TNode)) (x4_l0 : Int) : Option (((List TNode) × Int) ⊕ (List TNode)) := (if x4_l0 < ((p0.length : Int)) then (ix p0 x4_l0).bind fun a18 => (ck x4_l0 y6.length).bind fun m21 => some (.inl (((y6.set m21 ((laws_toNode a18))), (W (x4_l0 + 1))))) else some (.inr y6))
noncomputable def laws_toNodeS (p0 : (List TNode)) : Option (List TNode) := (mk 24 (TNode.mk (0 : Int) (0 : Int) (0 : Int)) ((p0.length : Int))).bind fun z7 => (loop (fun s : ((List TNode) × Int) => laws_toNodeS.b0 p0 s.1 s.2) ((z7, 0))).bind (fun q => laws_toNodeS.k0 q)

noncomputable def laws_toOmega (p0 : TOmega) : Option TOmega := (laws_toNodeS p0.stem).bind fun a6 => (laws_toNodeS p0.loop).bind fun a10 => some ((TOmega.mk a6 a10))

noncomputable def laws_toOmegaS.k0 (y4 : (List TOmega)) : Option (List TOmega) := some y4
noncomputable def laws_toOmegaS.b0 (p0 : (List TOmega)) (y6 : (List TOmega)) (x4_l0 : Int) : Option (((List TOmega) × Int) ⊕ (List TOmega)) := (if x4_l0 < ((p0.length : Int)) then (ix p0 x4_l0).bind fun a18 => (laws_toOmega a18).bind fun a20 => (ck x4_l0 y6.length).bind fun m21 => some (.inl (((y6.set m21 a20), (W (x4_l0 + 1))))) else some (.inr y6))
noncomputable def laws_toOmegaS (p0 : (List TOmega)) : Option (List TOmega) := (mk 48 (TOmega.mk ([] : (List TNode)) ([] : (List TNode))) ((p0.length : Int))).bind fun z7 => (loop (fun s : ((List TOmega) × Int) => laws_toOmegaS.b0 p0 s.1 s.2) ((z7, 0))).bind (fun q => laws_toOmegaS.k0 q)

noncomputable def spec_l1In (p0 : Int) (p1 : Int) (p2 : Int) : Bool := bnd ((decide (p0 ≥ p1))) fun c10 => (c10 && (decide (p0 ≤ p2)))

noncomputable def spec_l11Parts.k0 (p0 : Int) (x4_1 : Bool) : Int := (if x4_1 = true then 0 else (if p0 = 4 then 1 else (if p0 = 5 then (if p0 = 5 then 2 else (-1)) else (if p0 = 6 then 2 else (-1)))))
noncomputable def spec_l11Parts (p0 : Int) : Int := (if p0 = 1 then spec_l11Parts.k0 p0 ((decide (p0 = 1))) else (if p0 = 2 then spec_l11Parts.k0 p0 ((decide (p0 = 2))) else spec_l11Parts.k0 p0 ((decide (p0 = 3)))))

noncomputable def spec_l2Letter (p0 : Int) : Bool := (spec_l1In p0 0 7)

noncomputable def spec_l2Sizes.k0 (y4 : (List Int)) : Option (List Int) := some y4
noncomputable def spec_l2Sizes.b0 (p0 : (List TNode)) (p1 : (List Int)) (y8 : (List Int)) (x6_l0 : Int) : Option (((List Int) × Int) ⊕ ((List Int) ⊕ (List Int))) := (if x6_l0 < ((p0.length : Int)) then (ix p0 x6_l0).bind fun a19 => (ix p1 x6_l0).bind fun a23 => (if a23 = 1 then bnd ((decide (x6_l0 < 1))) fun c33 => bnd ((c33 || (decide (a19.a ≠ ((W (x6_l0 - 1))))))) fun c40 => (if (c40 || (decide (a19.b ≠ 0))) = true then some (.inr ((.inr ([])))) else (ix y8 ((W (x6_l0 - 1)))).bind fun a49 => (app 8 y8 ([(W (1 + a49))])).bind fun z95 => some (.inl ((z95, (W (x6_l0 + 1)))))) else (if a23 = 2 then bnd ((decide (x6_l0 < 2))) fun c56 => (if (c56 || (decide (a19.b ≠ ((W (x6_l0 - 1)))))) = true then some (.inr ((.inr ([])))) else (ix y8 ((W (x6_l0 - 1)))).bind fun a69 => bnd ((decide (((W (((W (x6_l0 - 1))) - a69))) < 0))) fun c74 => (if (c74 || (decide (a19.a ≠ ((W (((W (x6_l0 - 1))) - a69)))))) = true then some (.inr ((.inr ([])))) else (ix y8 ((W (x6_l0 - 1)))).bind fun a84 => (ix y8 ((W (((W (x6_l0 - 1))) - a69)))).bind fun a89 => (app 8 y8 ([(W (((W (1 + a84))) + a89))])).bind fun z95 => some (.inl ((z95, (W (x6_l0 + 1))))))) else (if a19.b ≠ 0 then some (.inr ((.inr ([])))) else (app 8 y8 ([1])).bind fun z95 => some (.inl ((z95, (W (x6_l0 + 1)))))))) else some (.inr ((.inl y8))))
noncomputable def spec_l2Sizes (p0 : (List TNode)) (p1 : (List Int)) : Option (List Int) := (loop (fun s : ((List Int) × Int) => spec_l2Sizes.b0 p0 p1 s.1 s.2) (([], 0))).bind (Sum.elim (fun q => spec_l2Sizes.k0 q) (fun q => some q))

noncomputable def spec_ReOk.k0 (p0 : (List TNode)) (y4 : (List Int)) : Option Bool := (spec_l2Sizes p0 y4).bind fun a59 => bnd ((decide (((a59.length : Int)) = ((p0.length : Int))))) fun c65 => (whenO c65 (ix a59 ((W (((p0.length : Int)) - 1))))).bind fun a70 => some ((c65 && (decide (a70 = ((p0.length : Int))))))
noncomputable def spec_ReOk.b0 (p0 : (List TNode)) (y8 : (List Int)) (x4_l0 : Int) : Option (((List Int) × Int) ⊕ ((List Int) ⊕ Bool)) := (if x4_l0 < ((p0.length : Int)) then (ix p0 x4_l0).bind fun a21 => bnd ((decide (((spec_l11Parts a21.kind)) < 0))) fun c28 => bnd ((decide (((spec_l11Parts a21.kind)) = 0))) fun c31 => bnd ((decide (a21.kind = 3))) fun c35 => bnd ((c35 && (!(spec_l2Letter a21.a)))) fun c41 => bnd ((decide (a21.kind ≠ 3))) fun c45 => (if (c28 || (c31 && (c41 || (c45 && (decide (a21.a ≠ 0)))))) = true then some (.inr ((.inr false))) else (app 8 y8 ([(spec_l11Parts a21.kind)])).bind fun z56 => some (.inl ((z56, (W (x4_l0 + 1)))))) else some (.inr ((.inl y8))))
noncomputable def spec_ReOk (p0 : (List TNode)) : Option Bool := (if (!(spec_l1In ((p0.length : Int)) 1 31)) = true then some false else (loop (fun s : ((List Int) × Int) => spec_ReOk.b0 p0 s.1 s.2) (([], 0))).bind (Sum.elim (fun q => spec_ReOk.k0 p0 q) (fun q => some q)))

noncomputable def spec_OmegaOk.k0 : Option Bool := some true
noncomputable def spec_OmegaOk.b0 (p0 : (List TOmega)) (x3_l0 : Int) : Option (Int ⊕ (Unit ⊕ Bool)) := (if x3_l0 < ((p0.length : Int)) then (ix p0 x3_l0).bind fun a15 => (spec_ReOk a15.stem).bind fun a18 => bnd ((!a18)) fun c20 => (whenO (!c20) (ix p0 x3_l0)).bind fun a23 => (whenO (!c20) (spec_ReOk a23.loop)).bind fun a26 => (if (c20 || (!a26)) = true then some (.inr ((.inr false))) else some (.inl ((W (x3_l0 + 1))))) else some (.inr ((.inl (())))))
noncomputable def spec_OmegaOk (p0 : (List TOmega)) : Option Bool := (if ((p0.length : Int)) > 4 then some false else (loop (fun s : Int => spec_OmegaOk.b0 p0 s) 0).bind (Sum.elim (fun q => spec_OmegaOk.k0) (fun q => some q)))

noncomputable def spec_l2Digit (p0 : Int) : ByteArray := (bstr ([(IntKind.u8.wrap ((W (48 + p0))))]))

noncomputable def spec_l11Print.body (rec_spec_l11Print : (List TNode) → Int → Option ByteArray) (p0 : (List TNode)) (p1 : Int) : Option ByteArray := (ix p0 p1).bind fun a8 => (if a8.kind = 1 then some ({ data := #[64] }) else (if a8.kind = 2 then some ({ data := #[95] }) else (if a8.kind = 3 then some ((spec_l2Digit a8.a)) else (if a8.kind = 4 then (rec_spec_l11Print p0 a8.a).bind fun a26 => (cat a26 ({ data := #[42] })).bind fun a27 => some a27 else (if a8.kind = 5 then (rec_spec_l11Print p0 a8.a).bind fun a33 => (cat ({ data := #[40] }) a33).bind fun a34 => (cat a34 ({ data := #[46] })).bind fun a35 => (rec_spec_l11Print p0 a8.b).bind fun a39 => (cat a35 a39).bind fun a40 => (cat a40 ({ data := #[41] })).bind fun a41 => some a41 else (rec_spec_l11Print p0 a8.a).bind fun a45 => (cat ({ data := #[40] }) a45).bind fun a46 => (cat a46 ({ data := #[124] })).bind fun a47 => (rec_spec_l11Print p0 a8.b).bind fun a51 => (cat a47 a51).bind fun a52 => (cat a52 ({ data := #[41] })).bind fun a53 => some a53)))))
noncomputable def spec_l11Print : Nat → (List TNode) → Int → Option ByteArray
  | 0 => fun _ _ => none
  | K + 1 => spec_l11Print.body (spec_l11Print K)

noncomputable def spec_RePrint (K : Nat) (p0 : (List TNode)) : Option ByteArray := (spec_ReOk p0).bind fun a4 => (if (!a4) = true then some ({ data := #[] }) else (spec_l11Print K p0 ((W (((p0.length : Int)) - 1)))).bind fun a10 => some a10)

noncomputable def spec_OmegaPrint.k0 (x3_1 : ByteArray) : Option ByteArray := some x3_1
noncomputable def spec_OmegaPrint.k1 (p0 : (List TOmega)) (x4_l0 : Int) (K : Nat) (x3_2 : ByteArray) : Option ((ByteArray × Int) ⊕ ByteArray) := (ix p0 x4_l0).bind fun a21 => (spec_RePrint K a21.stem).bind fun a24 => (cat x3_2 a24).bind fun a25 => (cat a25 ({ data := #[59] })).bind fun a26 => (ix p0 x4_l0).bind fun a29 => (spec_RePrint K a29.loop).bind fun a32 => (cat a26 a32).bind fun a33 => some (.inl ((a33, (W (x4_l0 + 1)))))
noncomputable def spec_OmegaPrint.b0 (p0 : (List TOmega)) (K : Nat) (x3_l0 : ByteArray) (x4_l0 : Int) : Option ((ByteArray × Int) ⊕ ByteArray) := (if x4_l0 < ((p0.length : Int)) then (if x4_l0 > 0 then (cat x3_l0 ({ data := #[43] })).bind fun a17 => spec_OmegaPrint.k1 p0 x4_l0 K a17 else spec_OmegaPrint.k1 p0 x4_l0 K x3_l0) else some (.inr x3_l0))
noncomputable def spec_OmegaPrint (K : Nat) (p0 : (List TOmega)) : Option ByteArray := (spec_OmegaOk p0).bind fun a6 => (if (!a6) = true then some ({ data := #[] }) else (loop (fun s : (ByteArray × Int) => spec_OmegaPrint.b0 p0 K s.1 s.2) (({ data := #[] }, 0))).bind (fun q => spec_OmegaPrint.k0 q))

noncomputable def impl_inRange (p0 : Int) (p1 : Int) (p2 : Int) : Bool := bnd ((decide (p0 ≥ p1))) fun c10 => (c10 && (decide (p0 ≤ p2)))

noncomputable def impl_begins.k0 (p0 : (List TNode)) (y4 : (List Int)) : Option ((List Int) × Bool) := (ix y4 ((W (((p0.length : Int)) - 1)))).bind fun a97 => some ((y4, (decide (a97 = 0))))
noncomputable def impl_begins.b0 (p0 : (List TNode)) (g1 : (TNode → Option Int)) (y7 : (List Int)) (x18_l0 : Int) : Option (((List Int) × Int) ⊕ ((List Int) ⊕ ((List Int) × Bool))) := (if x18_l0 < ((p0.length : Int)) then (ix p0 x18_l0).bind fun a21 => (ck x18_l0 y7.length).bind fun m26 => (g1 a21).bind fun a29 => (if a29 = 0 then some (.inl (((y7.set m26 x18_l0), (W (x18_l0 + 1))))) else (if a29 = 1 then bnd ((decide (x18_l0 = 0))) fun c36 => bnd ((c36 || (decide (a21.a ≠ ((W (x18_l0 - 1))))))) fun c43 => (if (c43 || (decide (a21.b ≠ 0))) = true then some (.inr ((.inr (([], false))))) else (ix ((y7.set m26 x18_l0)) a21.a).bind fun a53 => (ck x18_l0 ((y7.set m26 x18_l0)).length).bind fun m55 => some (.inl (((((y7.set m26 x18_l0)).set m55 a53), (W (x18_l0 + 1)))))) else (if a29 = 2 then bnd ((decide (x18_l0 = 0))) fun c60 => bnd ((c60 || (decide (a21.b ≠ ((W (x18_l0 - 1))))))) fun c67 => (whenO (!c67) (ix ((y7.set m26 x18_l0)) ((W (x18_l0 - 1))))).bind fun a73 => bnd ((c67 || (decide (a21.a ≠ ((W (a73 - 1))))))) fun c78 => (if (c78 || (decide (a21.a < 0))) = true then some (.inr ((.inr (([], false))))) else (ix ((y7.set m26 x18_l0)) a21.a).bind fun a88 => (ck x18_l0 ((y7.set m26 x18_l0)).length).bind fun m90 => some (.inl (((((y7.set m26 x18_l0)).set m90 a88), (W (x18_l0 + 1)))))) else some (.inr ((.inr (([], false)))))))) else some (.inr ((.inl y7))))
noncomputable def impl_begins (p0 : (List TNode)) (g1 : (TNode → Option Int)) : Option ((List Int) × Bool) := (if (!(impl_inRange ((p0.length : Int)) 1 31)) = true then some (([], false)) else (mk 8 (0 : Int) ((p0.length : Int))).bind fun z15 => (loop (fun s : ((List Int) × Int) => impl_begins.b0 p0 g1 s.1 s.2) ((z15, 0))).bind (Sum.elim (fun q => impl_begins.k0 p0 q) (fun q => some q)))

noncomputable def impl_isTree (p0 : (List TNode)) (g1 : (TNode → Option Int)) : Option Bool := (impl_begins p0 g1).bind fun a10 => some a10.2

noncomputable def impl_leaf (p0 : TNode) (p1 : Int) : Int := bnd ((decide (p0.b = 0))) fun c8 => (if (c8 && (impl_inRange p0.a 0 p1)) = true then 0 else (-1))

noncomputable def impl_reParts.k0 (p0 : TNode) (x5_1 : Bool) : Int := (if x5_1 = true then (impl_leaf p0 0) else (if p0.kind = 3 then (impl_leaf p0 7) else (if p0.kind = 4 then 1 else (if p0.kind = 5 then (if p0.kind = 5 then 2 else (-1)) else (if p0.kind = 6 then 2 else (-1))))))
noncomputable def impl_reParts (p0 : TNode) : Int := (if p0.kind = 1 then impl_reParts.k0 p0 ((decide (p0.kind = 1))) else impl_reParts.k0 p0 ((decide (p0.kind = 2))))

noncomputable def impl_ReOk (p0 : (List TNode)) : Option Bool := (impl_isTree p0 ((fun q0 => some (impl_reParts q0)))).bind fun a4 => some a4

noncomputable def impl_OmegaOk.k0 (p0 : (List TOmega)) : Option Bool := some ((decide (((p0.length : Int)) ≤ 4)))
noncomputable def impl_OmegaOk.b0 (p0 : (List TOmega)) (x7_l0 : Int) : Option (Int ⊕ (Unit ⊕ Bool)) := (if x7_l0 < ((p0.length : Int)) then (ix p0 x7_l0).bind fun a9 => (impl_ReOk a9.stem).bind fun a13 => bnd ((!a13)) fun c15 => (whenO (!c15) (impl_ReOk a9.loop)).bind fun a18 => (if (c15 || (!a18)) = true then some (.inr ((.inr false))) else some (.inl ((W (x7_l0 + 1))))) else some (.inr ((.inl (())))))
noncomputable def impl_OmegaOk (p0 : (List TOmega)) : Option Bool := (loop (fun s : Int => impl_OmegaOk.b0 p0 s) 0).bind (Sum.elim (fun q => impl_OmegaOk.k0 p0) (fun q => some q))

noncomputable def impl_digit (p0 : Int) : ByteArray := (bstr ([(IntKind.u8.wrap ((W (48 + p0))))]))

noncomputable def impl_RePrint.k0 (p0 : (List TNode)) (y4 : (List ByteArray)) : Option ByteArray := (ix y4 ((W (((p0.length : Int)) - 1)))).bind fun a93 => some a93
noncomputable def impl_RePrint.k1 (x14_l0 : Int) (y14 : (List ByteArray)) : Option (((List ByteArray) × Int) ⊕ (List ByteArray)) := some (.inl ((y14, (W (x14_l0 + 1)))))
noncomputable def impl_RePrint.b0 (p0 : (List TNode)) (y6 : (List ByteArray)) (x14_l0 : Int) : Option (((List ByteArray) × Int) ⊕ (List ByteArray)) := (if x14_l0 < ((p0.length : Int)) then (ix p0 x14_l0).bind fun a17 => (if a17.kind = 1 then (ck x14_l0 y6.length).bind fun m25 => impl_RePrint.k1 x14_l0 ((y6.set m25 ({ data := #[64] }))) else (if a17.kind = 2 then (ck x14_l0 y6.length).bind fun m30 => impl_RePrint.k1 x14_l0 ((y6.set m30 ({ data := #[95] }))) else (if a17.kind = 3 then (ck x14_l0 y6.length).bind fun m38 => impl_RePrint.k1 x14_l0 ((y6.set m38 ((impl_digit a17.a)))) else (if a17.kind = 4 then (ix y6 a17.a).bind fun a46 => (cat a46 ({ data := #[42] })).bind fun a48 => (ck x14_l0 y6.length).bind fun m49 => impl_RePrint.k1 x14_l0 ((y6.set m49 a48)) else (if a17.kind = 5 then (ix y6 a17.a).bind fun a57 => (cat ({ data := #[40] }) a57).bind fun a59 => (cat a59 ({ data := #[46] })).bind fun a60 => (ix y6 a17.b).bind fun a64 => (cat a60 a64).bind fun a66 => (cat a66 ({ data := #[41] })).bind fun a67 => (ck x14_l0 y6.length).bind fun m68 => impl_RePrint.k1 x14_l0 ((y6.set m68 a67)) else (if a17.kind = 6 then (ix y6 a17.a).bind fun a76 => (cat ({ data := #[40] }) a76).bind fun a78 => (cat a78 ({ data := #[124] })).bind fun a79 => (ix y6 a17.b).bind fun a83 => (cat a79 a83).bind fun a85 => (cat a85 ({ data := #[41] })).bind fun a86 => (ck x14_l0 y6.length).bind fun m87 => impl_RePrint.k1 x14_l0 ((y6.set m87 a86)) else impl_RePrint.k1 x14_l0 y6)))))) else some (.inr y6))
noncomputable def impl_RePrint (p0 : (List TNode)) : Option ByteArray := (impl_ReOk p0).bind fun a7 => (if (!a7) = true then some ({ data := #[] }) else (mk 16 (⟨#[]⟩ : ByteArray) ((p0.length : Int))).bind fun z11 => (loop (fun s : ((List ByteArray) × Int) => impl_RePrint.b0 p0 s.1 s.2) ((z11, 0))).bind (fun q => impl_RePrint.k0 p0 q))


noncomputable def impl_OmegaPrint.k0 (y3 : (List ByteArray)) : Option ByteArray := (strings_Join y3 ({ data := #[43] })).bind fun a28 => some a28
noncomputable def impl_OmegaPrint.b0 (p0 : (List TOmega)) (y7 : (List ByteArray)) (x11_l0 : Int) : Option (((List ByteArray) × Int) ⊕ (List ByteArray)) := (if x11_l0 < ((p0.length : Int)) then (ix p0 x11_l0).bind fun a13 => (impl_RePrint a13.stem).bind fun a18 => (cat a18 ({ data := #[59] })).bind fun a19 => (impl_RePrint a13.loop).bind fun a22 => (cat a19 a22).bind fun a23 => (app 16 y7 ([a23])).bind fun z25 => some (.inl ((z25, (W (x11_l0 + 1))))) else some (.inr y7))
noncomputable def impl_OmegaPrint (p0 : (List TOmega)) : Option ByteArray := (impl_OmegaOk p0).bind fun a7 => (if (!a7) = true then some ({ data := #[] }) else (loop (fun s : ((List ByteArray) × Int) => impl_OmegaPrint.b0 p0 s.1 s.2) (([], 0))).bind (fun q => impl_OmegaPrint.k0 q))

noncomputable def laws_eqNode (p0 : TNode) (p1 : TNode) : Bool := (if p0.kind ≠ p1.kind then false else (if p0.a ≠ p1.a then false else (if p0.b ≠ p1.b then false else true)))

noncomputable def laws_eqNodeS.k0 : Option Bool := some true
noncomputable def laws_eqNodeS.b0 (p0 : (List TNode)) (p1 : (List TNode)) (x5_l0 : Int) : Option (Int ⊕ (Unit ⊕ Bool)) := (if x5_l0 < ((p0.length : Int)) then (ix p0 x5_l0).bind fun a19 => (ix p1 x5_l0).bind fun a23 => (if (!(laws_eqNode a19 a23)) = true then some (.inr ((.inr false))) else some (.inl ((W (x5_l0 + 1))))) else some (.inr ((.inl (())))))
noncomputable def laws_eqNodeS (p0 : (List TNode)) (p1 : (List TNode)) : Option Bool := (if ((p0.length : Int)) ≠ ((p1.length : Int)) then some false else (loop (fun s : Int => laws_eqNodeS.b0 p0 p1 s) 0).bind (Sum.elim (fun q => laws_eqNodeS.k0) (fun q => some q)))

noncomputable def laws_eqOmega (p0 : TOmega) (p1 : TOmega) : Option Bool := (laws_eqNodeS p0.stem p1.stem).bind fun a9 => (if (!a9) = true then some false else (laws_eqNodeS p0.loop p1.loop).bind fun a15 => (if (!a15) = true then some false else some true))

noncomputable def laws_eqOmegaS.k0 : Option Bool := some true
noncomputable def laws_eqOmegaS.b0 (p0 : (List TOmega)) (p1 : (List TOmega)) (x5_l0 : Int) : Option (Int ⊕ (Unit ⊕ Bool)) := (if x5_l0 < ((p0.length : Int)) then (ix p0 x5_l0).bind fun a19 => (ix p1 x5_l0).bind fun a23 => (laws_eqOmega a19 a23).bind fun a25 => (if (!a25) = true then some (.inr ((.inr false))) else some (.inl ((W (x5_l0 + 1))))) else some (.inr ((.inl (())))))
noncomputable def laws_eqOmegaS (p0 : (List TOmega)) (p1 : (List TOmega)) : Option Bool := (if ((p0.length : Int)) ≠ ((p1.length : Int)) then some false else (loop (fun s : Int => laws_eqOmegaS.b0 p0 p1 s) 0).bind (Sum.elim (fun q => laws_eqOmegaS.k0) (fun q => some q)))

noncomputable def laws_FnExactOmegaPrint (K : Nat) (p0 : (List TOmega)) : Option Bool := (laws_szOmegaS p0 1048576).bind fun a9 => (if a9 < 0 then some true else (laws_toOmegaS p0).bind fun a13 => (spec_OmegaPrint K a13).bind fun a14 => (laws_toOmegaS p0).bind fun a16 => (impl_OmegaPrint a16).bind fun a18 => (if (!(a18.toList == a14.toList)) = true then some false else (laws_toOmegaS p0).bind fun a24 => (laws_eqOmegaS a16 a24).bind fun a25 => (if (!a25) = true then some false else some true)))

end Go.Proofs.Ytmmgpcnngaekoaa
