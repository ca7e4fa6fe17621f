/- Plain functions that the program's functions come to: FnExactLtlTemporal. -/
import Derived.Test.YtgklefbkneomoaaTy
namespace Go.Proofs.Ytgklefbkneomoaa
open Go Go.RowKit E
set_option linter.unusedVariables false
noncomputable def laws_szNodeS (p0 : (List TNode)) (p1 : Int) : Int := (if ((W (p1 - ((p0.length : Int))))) < 0 then (-1) else (W (p1 - ((p0.length : Int)))))

noncomputable def laws_toNode (p0 : TNode) : TNode := p0

noncomputable def laws_toNodeS.k0 (y4 : (List TNode)) : Option (List TNode) := some y4
noncomputable def laws_toNodeS.b0 (p0 : (List TNode)) (y6 : (List TNode)) (x4_l0 : Int) : Option (((List TNode) × Int) ⊕ (List TNode)) := (if x4_l0 < ((p0.length : Int)) then (ix p0 x4_l0).bind fun a18 => (ck x4_l0 y6.length).bind fun m21 => some (.inl (((y6.set m21 ((laws_toNode a18))), (W (x4_l0 + 1))))) else some (.inr y6))
noncomputable def laws_toNodeS (p0 : (List TNode)) : Option (List TNode) := (mk 24 (TNode.mk (0 : Int) (0 : Int) (0 : Int)) ((p0.length : Int))).bind fun z7 => (loop (fun s : ((List TNode) × Int) => laws_toNodeS.b0 p0 s.1 s.2) ((z7, 0))).bind (fun q => laws_toNodeS.k0 q)

noncomputable def spec_l1In (p0 : Int) (p1 : Int) (p2 : Int) : Bool := bnd ((decide (p0 ≥ p1))) fun c10 => (c10 && (decide (p0 ≤ p2)))

noncomputable def spec_l8Parts.k1 (p0 : Int) (x8_2 : Bool) : Int := (if x8_2 = true then 1 else (if p0 = 5 then (if p0 = 5 then 2 else (-1)) else (if p0 = 6 then (if p0 = 6 then 2 else (-1)) else (if p0 = 8 then (if p0 = 8 then 2 else (-1)) else (if p0 = 9 then 2 else (-1))))))
noncomputable def spec_l8Parts.k0 (p0 : Int) (x4_1 : Bool) : Int := (if x4_1 = true then 0 else (if p0 = 4 then spec_l8Parts.k1 p0 ((decide (p0 = 4))) else (if p0 = 7 then spec_l8Parts.k1 p0 ((decide (p0 = 7))) else (if p0 = 10 then spec_l8Parts.k1 p0 ((decide (p0 = 10))) else spec_l8Parts.k1 p0 ((decide (p0 = 11)))))))
noncomputable def spec_l8Parts (p0 : Int) : Int := (if p0 = 1 then spec_l8Parts.k0 p0 ((decide (p0 = 1))) else (if p0 = 2 then spec_l8Parts.k0 p0 ((decide (p0 = 2))) else spec_l8Parts.k0 p0 ((decide (p0 = 3)))))

noncomputable def spec_l2Leaf (p0 : TNode) : Bool := (if p0.kind = 3 then (spec_l1In p0.a 0 2) else (decide (p0.a = 0)))

noncomputable def spec_l2Sizes.k0 (y4 : (List Int)) : Option (List Int) := some y4
noncomputable def spec_l2Sizes.b0 (p0 : (List TNode)) (p1 : (List Int)) (y8 : (List Int)) (x6_l0 : Int) : Option (((List Int) × Int) ⊕ ((List Int) ⊕ (List Int))) := (if x6_l0 < ((p0.length : Int)) then (ix p0 x6_l0).bind fun a19 => (ix p1 x6_l0).bind fun a23 => (if a23 = 1 then bnd ((decide (x6_l0 < 1))) fun c33 => bnd ((c33 || (decide (a19.a ≠ ((W (x6_l0 - 1))))))) fun c40 => (if (c40 || (decide (a19.b ≠ 0))) = true then some (.inr ((.inr ([])))) else (ix y8 ((W (x6_l0 - 1)))).bind fun a49 => (app 8 y8 ([(W (1 + a49))])).bind fun z95 => some (.inl ((z95, (W (x6_l0 + 1)))))) else (if a23 = 2 then bnd ((decide (x6_l0 < 2))) fun c56 => (if (c56 || (decide (a19.b ≠ ((W (x6_l0 - 1)))))) = true then some (.inr ((.inr ([])))) else (ix y8 ((W (x6_l0 - 1)))).bind fun a69 => bnd ((decide (((W (((W (x6_l0 - 1))) - a69))) < 0))) fun c74 => (if (c74 || (decide (a19.a ≠ ((W (((W (x6_l0 - 1))) - a69)))))) = true then some (.inr ((.inr ([])))) else (ix y8 ((W (x6_l0 - 1)))).bind fun a84 => (ix y8 ((W (((W (x6_l0 - 1))) - a69)))).bind fun a89 => (app 8 y8 ([(W (((W (1 + a84))) + a89))])).bind fun z95 => some (.inl ((z95, (W (x6_l0 + 1))))))) else (if a19.b ≠ 0 then some (.inr ((.inr ([])))) else (app 8 y8 ([1])).bind fun z95 => some (.inl ((z95, (W (x6_l0 + 1)))))))) else some (.inr ((.inl y8))))
noncomputable def spec_l2Sizes (p0 : (List TNode)) (p1 : (List Int)) : Option (List Int) := (loop (fun s : ((List Int) × Int) => spec_l2Sizes.b0 p0 p1 s.1 s.2) (([], 0))).bind (Sum.elim (fun q => spec_l2Sizes.k0 q) (fun q => some q))

noncomputable def spec_LtlOk.k0 (p0 : (List TNode)) (y4 : (List Int)) : Option Bool := (spec_l2Sizes p0 y4).bind fun a44 => bnd ((decide (((a44.length : Int)) = ((p0.length : Int))))) fun c50 => (whenO c50 (ix a44 ((W (((p0.length : Int)) - 1))))).bind fun a55 => some ((c50 && (decide (a55 = ((p0.length : Int))))))
noncomputable def spec_LtlOk.b0 (p0 : (List TNode)) (y8 : (List Int)) (x4_l0 : Int) : Option (((List Int) × Int) ⊕ ((List Int) ⊕ Bool)) := (if x4_l0 < ((p0.length : Int)) then (ix p0 x4_l0).bind fun a20 => bnd ((decide (((spec_l8Parts a20.kind)) < 0))) fun c26 => bnd ((decide (((spec_l8Parts a20.kind)) = 0))) fun c29 => (whenO ((!c26) && c29) (ix p0 x4_l0)).bind fun a32 => (if (c26 || (c29 && (!(spec_l2Leaf a32)))) = true then some (.inr ((.inr false))) else (app 8 y8 ([(spec_l8Parts a20.kind)])).bind fun z41 => some (.inl ((z41, (W (x4_l0 + 1)))))) else some (.inr ((.inl y8))))
noncomputable def spec_LtlOk (p0 : (List TNode)) : Option Bool := (if (!(spec_l1In ((p0.length : Int)) 1 31)) = true then some false else (loop (fun s : ((List Int) × Int) => spec_LtlOk.b0 p0 s.1 s.2) (([], 0))).bind (Sum.elim (fun q => spec_LtlOk.k0 p0 q) (fun q => some q)))

noncomputable def spec_l8Temporal.k0 (y4 : (List Int)) : Option (List Int) := some y4
noncomputable def spec_l8Temporal.b0 (p0 : (List TNode)) (y8 : (List Int)) (x4_l0 : Int) : Option (((List Int) × Int) ⊕ (List Int)) := (if x4_l0 < ((p0.length : Int)) then (ix p0 x4_l0).bind fun a14 => (if a14.kind ≥ 7 then (app 8 y8 ([x4_l0])).bind fun z21 => some (.inl ((z21, (W (x4_l0 + 1))))) else some (.inl ((y8, (W (x4_l0 + 1)))))) else some (.inr y8))
noncomputable def spec_l8Temporal (p0 : (List TNode)) : Option (List Int) := (loop (fun s : ((List Int) × Int) => spec_l8Temporal.b0 p0 s.1 s.2) (([], 0))).bind (fun q => spec_l8Temporal.k0 q)

noncomputable def spec_LtlTemporal (p0 : (List TNode)) : Option (List Int) := (spec_LtlOk p0).bind fun a4 => (if (!a4) = true then some ([]) else (spec_l8Temporal p0).bind fun a8 => some a8)

noncomputable def impl_inRange (p0 : Int) (p1 : Int) (p2 : Int) : Bool := bnd ((decide (p0 ≥ p1))) fun c10 => (c10 && (decide (p0 ≤ p2)))

noncomputable def impl_begins.k0 (p0 : (List TNode)) (y4 : (List Int)) : Option ((List Int) × Bool) := (ix y4 ((W (((p0.length : Int)) - 1)))).bind fun a97 => some ((y4, (decide (a97 = 0))))
noncomputable def impl_begins.b0 (p0 : (List TNode)) (g1 : (TNode → Option Int)) (y7 : (List Int)) (x18_l0 : Int) : Option (((List Int) × Int) ⊕ ((List Int) ⊕ ((List Int) × Bool))) := (if x18_l0 < ((p0.length : Int)) then (ix p0 x18_l0).bind fun a21 => (ck x18_l0 y7.length).bind fun m26 => (g1 a21).bind fun a29 => (if a29 = 0 then some (.inl (((y7.set m26 x18_l0), (W (x18_l0 + 1))))) else (if a29 = 1 then bnd ((decide (x18_l0 = 0))) fun c36 => bnd ((c36 || (decide (a21.a ≠ ((W (x18_l0 - 1))))))) fun c43 => (if (c43 || (decide (a21.b ≠ 0))) = true then some (.inr ((.inr (([], false))))) else (ix ((y7.set m26 x18_l0)) a21.a).bind fun a53 => (ck x18_l0 ((y7.set m26 x18_l0)).length).bind fun m55 => some (.inl (((((y7.set m26 x18_l0)).set m55 a53), (W (x18_l0 + 1)))))) else (if a29 = 2 then bnd ((decide (x18_l0 = 0))) fun c60 => bnd ((c60 || (decide (a21.b ≠ ((W (x18_l0 - 1))))))) fun c67 => (whenO (!c67) (ix ((y7.set m26 x18_l0)) ((W (x18_l0 - 1))))).bind fun a73 => bnd ((c67 || (decide (a21.a ≠ ((W (a73 - 1))))))) fun c78 => (if (c78 || (decide (a21.a < 0))) = true then some (.inr ((.inr (([], false))))) else (ix ((y7.set m26 x18_l0)) a21.a).bind fun a88 => (ck x18_l0 ((y7.set m26 x18_l0)).length).bind fun m90 => some (.inl (((((y7.set m26 x18_l0)).set m90 a88), (W (x18_l0 + 1)))))) else some (.inr ((.inr (([], false)))))))) else some (.inr ((.inl y7))))
noncomputable def impl_begins (p0 : (List TNode)) (g1 : (TNode → Option Int)) : Option ((List Int) × Bool) := (if (!(impl_inRange ((p0.length : Int)) 1 31)) = true then some (([], false)) else (mk 8 (0 : Int) ((p0.length : Int))).bind fun z15 => (loop (fun s : ((List Int) × Int) => impl_begins.b0 p0 g1 s.1 s.2) ((z15, 0))).bind (Sum.elim (fun q => impl_begins.k0 p0 q) (fun q => some q)))

noncomputable def impl_isTree (p0 : (List TNode)) (g1 : (TNode → Option Int)) : Option Bool := (impl_begins p0 g1).bind fun a10 => some a10.2

noncomputable def impl_leaf (p0 : TNode) (p1 : Int) : Int := bnd ((decide (p0.b = 0))) fun c8 => (if (c8 && (impl_inRange p0.a 0 p1)) = true then 0 else (-1))

noncomputable def impl_exprParts.k0 (p0 : TNode) (x5_1 : Bool) : Int := (if x5_1 = true then (impl_leaf p0 0) else (if p0.kind = 3 then (impl_leaf p0 2) else (if p0.kind = 4 then 1 else (if p0.kind = 5 then (if p0.kind = 5 then 2 else (-1)) else (if p0.kind = 6 then 2 else (-1))))))
noncomputable def impl_exprParts (p0 : TNode) : Int := (if p0.kind = 1 then impl_exprParts.k0 p0 ((decide (p0.kind = 1))) else impl_exprParts.k0 p0 ((decide (p0.kind = 2))))

noncomputable def impl_ltlParts (p0 : TNode) : Int := (if p0.kind = 7 then (if p0.kind = 7 then 1 else (if p0.kind = 8 then (if p0.kind = 8 then 2 else (impl_exprParts p0)) else (if p0.kind = 9 then 2 else (impl_exprParts p0)))) else (if p0.kind = 10 then (if p0.kind = 10 then 1 else (if p0.kind = 8 then (if p0.kind = 8 then 2 else (impl_exprParts p0)) else (if p0.kind = 9 then 2 else (impl_exprParts p0)))) else (if p0.kind = 11 then 1 else (if p0.kind = 8 then (if p0.kind = 8 then 2 else (impl_exprParts p0)) else (if p0.kind = 9 then 2 else (impl_exprParts p0))))))

noncomputable def impl_LtlOk (p0 : (List TNode)) : Option Bool := (impl_isTree p0 ((fun q0 => some (impl_ltlParts q0)))).bind fun a4 => some a4

noncomputable def impl_temporal.k0 (y3 : (List Int)) : Option (List Int) := some y3
noncomputable def impl_temporal.b0 (p0 : (List TNode)) (y7 : (List Int)) (x8_l0 : Int) : Option (((List Int) × Int) ⊕ (List Int)) := (if x8_l0 < ((p0.length : Int)) then (ix p0 x8_l0).bind fun a11 => (if a11.kind ≥ 7 then (app 8 y7 ([x8_l0])).bind fun z19 => some (.inl ((z19, (W (x8_l0 + 1))))) else some (.inl ((y7, (W (x8_l0 + 1)))))) else some (.inr y7))
noncomputable def impl_temporal (p0 : (List TNode)) : Option (List Int) := (loop (fun s : ((List Int) × Int) => impl_temporal.b0 p0 s.1 s.2) (([], 0))).bind (fun q => impl_temporal.k0 q)

noncomputable def impl_LtlTemporal (p0 : (List TNode)) : Option (List Int) := (impl_LtlOk p0).bind fun a4 => (if (!a4) = true then some ([]) else (impl_temporal p0).bind fun a7 => some a7)

noncomputable def laws_eqIntS.k0 : Option Bool := some true
noncomputable def laws_eqIntS.b0 (p0 : (List Int)) (p1 : (List Int)) (x5_l0 : Int) : Option (Int ⊕ (Unit ⊕ Bool)) := (if x5_l0 < ((p0.length : Int)) then (ix p0 x5_l0).bind fun a19 => (ix p1 x5_l0).bind fun a23 => (if a19 ≠ a23 then some (.inr ((.inr false))) else some (.inl ((W (x5_l0 + 1))))) else some (.inr ((.inl (())))))
noncomputable def laws_eqIntS (p0 : (List Int)) (p1 : (List Int)) : Option Bool := (if ((p0.length : Int)) ≠ ((p1.length : Int)) then some false else (loop (fun s : Int => laws_eqIntS.b0 p0 p1 s) 0).bind (Sum.elim (fun q => laws_eqIntS.k0) (fun q => some q)))

noncomputable def laws_eqNode (p0 : TNode) (p1 : TNode) : Bool := (if p0.kind ≠ p1.kind then false else (if p0.a ≠ p1.a then false else (if p0.b ≠ p1.b then false else true)))

noncomputable def laws_eqNodeS.k0 : Option Bool := some true
noncomputable def laws_eqNodeS.b0 (p0 : (List TNode)) (p1 : (List TNode)) (x5_l0 : Int) : Option (Int ⊕ (Unit ⊕ Bool)) := (if x5_l0 < ((p0.length : Int)) then (ix p0 x5_l0).bind fun a19 => (ix p1 x5_l0).bind fun a23 => (if (!(laws_eqNode a19 a23)) = true then some (.inr ((.inr false))) else some (.inl ((W (x5_l0 + 1))))) else some (.inr ((.inl (())))))
noncomputable def laws_eqNodeS (p0 : (List TNode)) (p1 : (List TNode)) : Option Bool := (if ((p0.length : Int)) ≠ ((p1.length : Int)) then some false else (loop (fun s : Int => laws_eqNodeS.b0 p0 p1 s) 0).bind (Sum.elim (fun q => laws_eqNodeS.k0) (fun q => some q)))

noncomputable def laws_markNodeS.k0 (x1_1 : Int) (y2 : (List TNode)) : Option (Int × (List TNode)) := some ((x1_1, y2))
noncomputable def laws_markNodeS.b0 (y4 : (List TNode)) (x1_l0 : Int) (x5_l0 : Int) : Option (((List TNode) × Int × Int) ⊕ (Int × (List TNode))) := (if x5_l0 < ((y4.length : Int)) then (ck x5_l0 y4.length).bind fun m15 => (ck x5_l0 ((y4.set m15 ((fun q : TNode => { q with kind := x1_l0 }) (y4.getD m15 default)))).length).bind fun m22 => (ck x5_l0 ((((y4.set m15 ((fun q : TNode => { q with kind := x1_l0 }) (y4.getD m15 default)))).set m22 ((fun q : TNode => { q with a := (W (x1_l0 + 1)) }) (((y4.set m15 ((fun q : TNode => { q with kind := x1_l0 }) (y4.getD m15 default)))).getD m22 default)))).length).bind fun m29 => some (.inl (((((((y4.set m15 ((fun q : TNode => { q with kind := x1_l0 }) (y4.getD m15 default)))).set m22 ((fun q : TNode => { q with a := (W (x1_l0 + 1)) }) (((y4.set m15 ((fun q : TNode => { q with kind := x1_l0 }) (y4.getD m15 default)))).getD m22 default)))).set m29 ((fun q : TNode => { q with b := (W (((W (x1_l0 + 1))) + 1)) }) (((((y4.set m15 ((fun q : TNode => { q with kind := x1_l0 }) (y4.getD m15 default)))).set m22 ((fun q : TNode => { q with a := (W (x1_l0 + 1)) }) (((y4.set m15 ((fun q : TNode => { q with kind := x1_l0 }) (y4.getD m15 default)))).getD m22 default)))).getD m29 default))), (W (((W (((W (x1_l0 + 1))) + 1))) + 1)), (W (x5_l0 + 1))))) else some (.inr ((x1_l0, y4))))
noncomputable def laws_markNodeS (p0 : (List TNode)) (p1 : Int) : Option (Int × (List TNode)) := (loop (fun s : ((List TNode) × Int × Int) => laws_markNodeS.b0 s.1 s.2.1 s.2.2) ((p0, p1, 0))).bind (fun q => laws_markNodeS.k0 q.1 q.2)

noncomputable def laws_markIntS.k0 (x1_1 : Int) (y2 : (List Int)) : Option (Int × (List Int)) := some ((x1_1, y2))
noncomputable def laws_markIntS.b0 (y4 : (List Int)) (x1_l0 : Int) (x5_l0 : Int) : Option (((List Int) × Int × Int) ⊕ (Int × (List Int))) := (if x5_l0 < ((y4.length : Int)) then (ck x5_l0 y4.length).bind fun m15 => some (.inl (((y4.set m15 x1_l0), (W (x1_l0 + 1)), (W (x5_l0 + 1))))) else some (.inr ((x1_l0, y4))))
noncomputable def laws_markIntS (p0 : (List Int)) (p1 : Int) : Option (Int × (List Int)) := (loop (fun s : ((List Int) × Int × Int) => laws_markIntS.b0 s.1 s.2.1 s.2.2) ((p0, p1, 0))).bind (fun q => laws_markIntS.k0 q.1 q.2)

noncomputable def laws_heldIntS.k0 (x1_1 : Int) : Option Int := some x1_1
noncomputable def laws_heldIntS.b0 (p0 : (List Int)) (x1_l0 : Int) (x5_l0 : Int) : Option ((Int × Int) ⊕ (Int ⊕ Int)) := (if x5_l0 < ((p0.length : Int)) then (ix p0 x5_l0).bind fun a14 => (if a14 ≠ x1_l0 then some (.inr ((.inr ((-1))))) else some (.inl (((W (x1_l0 + 1)), (W (x5_l0 + 1)))))) else some (.inr ((.inl x1_l0))))
noncomputable def laws_heldIntS (p0 : (List Int)) (p1 : Int) : Option Int := (loop (fun s : (Int × Int) => laws_heldIntS.b0 p0 s.1 s.2) ((p1, 0))).bind (Sum.elim (fun q => laws_heldIntS.k0 q) (fun q => some q))

noncomputable def laws_FnExactLtlTemporal (p0 : (List TNode)) : Option Bool := (if ((laws_szNodeS p0 1048576)) < 0 then some true else (laws_toNodeS p0).bind fun a17 => (spec_LtlTemporal a17).bind fun a18 => (laws_toNodeS p0).bind fun a20 => (impl_LtlTemporal a20).bind fun a22 => (laws_eqIntS a22 a18).bind fun a25 => (if (!a25) = true then some false else (laws_toNodeS p0).bind fun a29 => (laws_eqNodeS a20 a29).bind fun a30 => (if (!a30) = true then some false else (laws_markNodeS a20 1).bind fun a34 => bnd ((decide (a34.1 < 0))) fun c37 => (whenO (!c37) (laws_eqIntS a22 a18)).bind fun a40 => (if (c37 || (!a40)) = true then some false else (laws_markIntS a22 1).bind fun a45 => (laws_heldIntS a45.2 1).bind fun a48 => (if a48 < 0 then some false else (if a48 ≠ a45.1 then some false else (laws_toNodeS p0).bind fun a55 => (impl_LtlTemporal a55).bind fun a56 => (laws_eqIntS a56 a18).bind fun a59 => (if (!a59) = true then some false else (laws_heldIntS a45.2 1).bind fun a63 => (if a63 < 0 then some false else (if a63 ≠ a45.1 then some false else some true)))))))))

end Go.Proofs.Ytgklefbkneomoaa
