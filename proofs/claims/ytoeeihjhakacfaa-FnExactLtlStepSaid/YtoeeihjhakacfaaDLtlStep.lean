/- Plain functions that the program's functions come to: FnExactLtlStep. -/
import Derived.Test.YtoeeihjhakacfaaTy
namespace Go.Proofs.Ytoeeihjhakacfaa
open Go Go.RowKit E
set_option linter.unusedVariables false
noncomputable def laws_szNodeS (p0 : (List TNode)) (p1 : Int) : Int := (if ((W (p1 - ((p0.length : Int))))) < 0 then (-1) else (W (p1 - ((p0.length : Int)))))

noncomputable def laws_toNode (p0 : TNode) : TNode := p0

noncomputable def laws_toNodeS.k0 (y4 : (List TNode)) : Option (List TNode) := some y4
noncomputable def laws_toNodeS.b0 (p0 : (List TNode)) (y6 : (List TNode)) (x4_l0 : Int) : Option (((List TNode) × Int) ⊕ (List TNode)) := (if x4_l0 < ((p0.length : Int)) then (ix p0 x4_l0).bind fun a18 => (ck x4_l0 y6.length).bind fun m21 => some (.inl (((y6.set m21 ((laws_toNode a18))), (W (x4_l0 + 1))))) else some (.inr y6))
noncomputable def laws_toNodeS (p0 : (List TNode)) : Option (List TNode) := (mk 24 (TNode.mk (0 : Int) (0 : Int) (0 : Int)) ((p0.length : Int))).bind fun z7 => (loop (fun s : ((List TNode) × Int) => laws_toNodeS.b0 p0 s.1 s.2) ((z7, 0))).bind (fun q => laws_toNodeS.k0 q)

noncomputable def spec_l1In (p0 : Int) (p1 : Int) (p2 : Int) : Bool := bnd ((decide (p0 ≥ p1))) fun c10 => (c10 && (decide (p0 ≤ p2)))

noncomputable def spec_l8Parts.k1 (p0 : Int) (x8_2 : Bool) : Int := (if x8_2 = true then 1 else (if p0 = 5 then (if p0 = 5 then 2 else (-1)) else (if p0 = 6 then (if p0 = 6 then 2 else (-1)) else (if p0 = 8 then (if p0 = 8 then 2 else (-1)) else (if p0 = 9 then 2 else (-1))))))
noncomputable def spec_l8Parts.k0 (p0 : Int) (x4_1 : Bool) : Int := (if x4_1 = true then 0 else (if p0 = 4 then spec_l8Parts.k1 p0 ((decide (p0 = 4))) else (if p0 = 7 then spec_l8Parts.k1 p0 ((decide (p0 = 7))) else (if p0 = 10 then spec_l8Parts.k1 p0 ((decide (p0 = 10))) else spec_l8Parts.k1 p0 ((decide (p0 = 11)))))))
noncomputable def spec_l8Parts (p0 : Int) : Int := (if p0 = 1 then spec_l8Parts.k0 p0 ((decide (p0 = 1))) else (if p0 = 2 then spec_l8Parts.k0 p0 ((decide (p0 = 2))) else spec_l8Parts.k0 p0 ((decide (p0 = 3)))))

noncomputable def spec_l2Leaf (p0 : TNode) : Bool := (if p0.kind = 3 then (spec_l1In p0.a 0 2) else (decide (p0.a = 0)))

noncomputable def spec_l2Sizes.k0 (y4 : (List Int)) : Option (List Int) := some y4
noncomputable def spec_l2Sizes.b0 (p0 : (List TNode)) (p1 : (List Int)) (y8 : (List Int)) (x6_l0 : Int) : Option (((List Int) × Int) ⊕ ((List Int) ⊕ (List Int))) := (if x6_l0 < ((p0.length : Int)) then (ix p0 x6_l0).bind fun a19 => (ix p1 x6_l0).bind fun a23 => (if a23 = 1 then bnd ((decide (x6_l0 < 1))) fun c33 => bnd ((c33 || (decide (a19.a ≠ ((W (x6_l0 - 1))))))) fun c40 => (if (c40 || (decide (a19.b ≠ 0))) = true then some (.inr ((.inr ([])))) else (ix y8 ((W (x6_l0 - 1)))).bind fun a49 => (app 8 y8 ([(W (1 + a49))])).bind fun z95 => some (.inl ((z95, (W (x6_l0 + 1)))))) else (if a23 = 2 then bnd ((decide (x6_l0 < 2))) fun c56 => (if (c56 || (decide (a19.b ≠ ((W (x6_l0 - 1)))))) = true then some (.inr ((.inr ([])))) else (ix y8 ((W (x6_l0 - 1)))).bind fun a69 => bnd ((decide (((W (((W (x6_l0 - 1))) - a69))) < 0))) fun c74 => (if (c74 || (decide (a19.a ≠ ((W (((W (x6_l0 - 1))) - a69)))))) = true then some (.inr ((.inr ([])))) else (ix y8 ((W (x6_l0 - 1)))).bind fun a84 => (ix y8 ((W (((W (x6_l0 - 1))) - a69)))).bind fun a89 => (app 8 y8 ([(W (((W (1 + a84))) + a89))])).bind fun z95 => some (.inl ((z95, (W (x6_l0 + 1))))))) else (if a19.b ≠ 0 then some (.inr ((.inr ([])))) else (app 8 y8 ([1])).bind fun z95 => some (.inl ((z95, (W (x6_l0 + 1)))))))) else some (.inr ((.inl y8))))
noncomputable def spec_l2Sizes (p0 : (List TNode)) (p1 : (List Int)) : Option (List Int) := (loop (fun s : ((List Int) × Int) => spec_l2Sizes.b0 p0 p1 s.1 s.2) (([], 0))).bind (Sum.elim (fun q => spec_l2Sizes.k0 q) (fun q => some q))

noncomputable def spec_LtlOk.k0 (p0 : (List TNode)) (y4 : (List Int)) : Option Bool := (spec_l2Sizes p0 y4).bind fun a44 => bnd ((decide (((a44.length : Int)) = ((p0.length : Int))))) fun c50 => (whenO c50 (ix a44 ((W (((p0.length : Int)) - 1))))).bind fun a55 => some ((c50 && (decide (a55 = ((p0.length : Int))))))
noncomputable def spec_LtlOk.b0 (p0 : (List TNode)) (y8 : (List Int)) (x4_l0 : Int) : Option (((List Int) × Int) ⊕ ((List Int) ⊕ Bool)) := (if x4_l0 < ((p0.length : Int)) then (ix p0 x4_l0).bind fun a20 => bnd ((decide (((spec_l8Parts a20.kind)) < 0))) fun c26 => bnd ((decide (((spec_l8Parts a20.kind)) = 0))) fun c29 => (whenO ((!c26) && c29) (ix p0 x4_l0)).bind fun a32 => (if (c26 || (c29 && (!(spec_l2Leaf a32)))) = true then some (.inr ((.inr false))) else (app 8 y8 ([(spec_l8Parts a20.kind)])).bind fun z41 => some (.inl ((z41, (W (x4_l0 + 1)))))) else some (.inr ((.inl y8))))
noncomputable def spec_LtlOk (p0 : (List TNode)) : Option Bool := (if (!(spec_l1In ((p0.length : Int)) 1 31)) = true then some false else (loop (fun s : ((List Int) × Int) => spec_LtlOk.b0 p0 s.1 s.2) (([], 0))).bind (Sum.elim (fun q => spec_LtlOk.k0 p0 q) (fun q => some q)))

noncomputable def spec_l2Letter (p0 : Int) : Bool := (spec_l1In p0 0 7)

noncomputable def spec_SetOk (p0 : Int) : Bool := (spec_l1In p0 0 2147483647)

noncomputable def spec_l1Bit (p0 : Int) : Option Int := (chk (decide (0 ≤ ((bAnd .i64 p0 31))))).bind fun u1 => some ((shl .i64 1 ((bAnd .i64 p0 31))))

noncomputable def spec_l1Has (p0 : Int) (p1 : Int) : Option Bool := bnd ((spec_l1In p1 0 30)) fun c7 => (whenO c7 (spec_l1Bit p1)).bind fun a10 => some ((c7 && (decide (((bAnd .i64 p0 a10)) ≠ 0))))

noncomputable def spec_l9Step.k0 (y4 : (List Bool)) : Option (List Bool) := some y4
noncomputable def spec_l9Step.k2 (y8 : (List Bool)) (x8_2 : Int) (x9_l0 : Int) (x11_3 : Bool) : Option (((List Bool) × Int × Int) ⊕ (List Bool)) := (app 1 y8 ([x11_3])).bind fun z140 => some (.inl ((z140, x8_2, (W (x9_l0 + 1)))))
noncomputable def spec_l9Step.k1 (a22 : TNode) (y8 : (List Bool)) (x9_l0 : Int) (p1 : Int) (a26 : Bool) (x8_2 : Int) : Option (((List Bool) × Int × Int) ⊕ (List Bool)) := (if a22.kind = 1 then spec_l9Step.k2 y8 x8_2 x9_l0 true else (if a22.kind = 3 then (chk (decide (0 ≤ a22.a))).bind fun u26 => spec_l9Step.k2 y8 x8_2 x9_l0 ((decide (((bAnd .i64 ((shr .i64 p1 a22.a)) 1)) = 1))) else (if a22.kind = 4 then (ix y8 a22.a).bind fun a49 => spec_l9Step.k2 y8 x8_2 x9_l0 ((!a49)) else (if a22.kind = 5 then (ix y8 a22.a).bind fun a57 => (whenO a57 (ix y8 a22.b)).bind fun a63 => spec_l9Step.k2 y8 x8_2 x9_l0 ((a57 && a63)) else (if a22.kind = 6 then (ix y8 a22.a).bind fun a71 => (whenO (!a71) (ix y8 a22.b)).bind fun a77 => spec_l9Step.k2 y8 x8_2 x9_l0 ((a71 || a77)) else (if a22.kind = 7 then spec_l9Step.k2 y8 x8_2 x9_l0 a26 else (if a22.kind = 8 then (ix y8 a22.b).bind fun a88 => (whenO (!a88) (ix y8 a22.a)).bind fun a94 => spec_l9Step.k2 y8 x8_2 x9_l0 ((a88 || (a94 && a26))) else (if a22.kind = 9 then (ix y8 a22.b).bind fun a105 => (whenO a105 (ix y8 a22.a)).bind fun a111 => spec_l9Step.k2 y8 x8_2 x9_l0 ((a105 && (a111 || a26))) else (if a22.kind = 10 then (ix y8 a22.a).bind fun a122 => spec_l9Step.k2 y8 x8_2 x9_l0 ((a122 || a26)) else (if a22.kind = 11 then (ix y8 a22.a).bind fun a132 => spec_l9Step.k2 y8 x8_2 x9_l0 ((a132 && a26)) else spec_l9Step.k2 y8 x8_2 x9_l0 false))))))))))
noncomputable def spec_l9Step.b0 (p0 : (List TNode)) (p2 : Int) (p1 : Int) (y8 : (List Bool)) (x8_l0 : Int) (x9_l0 : Int) : Option (((List Bool) × Int × Int) ⊕ (List Bool)) := (if x9_l0 < ((p0.length : Int)) then (ix p0 x9_l0).bind fun a22 => (spec_l1Has p2 x8_l0).bind fun a26 => (if a22.kind ≥ 7 then spec_l9Step.k1 a22 y8 x9_l0 p1 a26 ((W (x8_l0 + 1))) else spec_l9Step.k1 a22 y8 x9_l0 p1 a26 x8_l0) else some (.inr y8))
noncomputable def spec_l9Step (p0 : (List TNode)) (p1 : Int) (p2 : Int) : Option (List Bool) := (loop (fun s : ((List Bool) × Int × Int) => spec_l9Step.b0 p0 p2 p1 s.1 s.2.1 s.2.2) (([], 0, 0))).bind (fun q => spec_l9Step.k0 q)

noncomputable def spec_LtlStep (p0 : (List TNode)) (p1 : Int) (p2 : Int) : Option (List Bool) := (spec_LtlOk p0).bind fun a8 => bnd ((!a8)) fun c10 => bnd ((c10 || (!(spec_l2Letter p1)))) fun c15 => (if (c15 || (!(spec_SetOk p2))) = true then some ([]) else (spec_l9Step p0 p1 p2).bind fun a24 => some a24)

noncomputable def impl_inRange (p0 : Int) (p1 : Int) (p2 : Int) : Bool := bnd ((decide (p0 ≥ p1))) fun c10 => (c10 && (decide (p0 ≤ p2)))

noncomputable def impl_isLetter (p0 : Int) : Bool := (impl_inRange p0 0 7)

noncomputable def impl_SetOk (p0 : Int) : Bool := (impl_inRange p0 0 2147483647)

noncomputable def impl_begins.k0 (p0 : (List TNode)) (y4 : (List Int)) : Option ((List Int) × Bool) := (ix y4 ((W (((p0.length : Int)) - 1)))).bind fun a97 => some ((y4, (decide (a97 = 0))))
noncomputable def impl_begins.b0 (p0 : (List TNode)) (g1 : (TNode → Option Int)) (y7 : (List Int)) (x18_l0 : Int) : Option (((List Int) × Int) ⊕ ((List Int) ⊕ ((List Int) × Bool))) := (if x18_l0 < ((p0.length : Int)) then (ix p0 x18_l0).bind fun a21 => (ck x18_l0 y7.length).bind fun m26 => (g1 a21).bind fun a29 => (if a29 = 0 then some (.inl (((y7.set m26 x18_l0), (W (x18_l0 + 1))))) else (if a29 = 1 then bnd ((decide (x18_l0 = 0))) fun c36 => bnd ((c36 || (decide (a21.a ≠ ((W (x18_l0 - 1))))))) fun c43 => (if (c43 || (decide (a21.b ≠ 0))) = true then some (.inr ((.inr (([], false))))) else (ix ((y7.set m26 x18_l0)) a21.a).bind fun a53 => (ck x18_l0 ((y7.set m26 x18_l0)).length).bind fun m55 => some (.inl (((((y7.set m26 x18_l0)).set m55 a53), (W (x18_l0 + 1)))))) else (if a29 = 2 then bnd ((decide (x18_l0 = 0))) fun c60 => bnd ((c60 || (decide (a21.b ≠ ((W (x18_l0 - 1))))))) fun c67 => (whenO (!c67) (ix ((y7.set m26 x18_l0)) ((W (x18_l0 - 1))))).bind fun a73 => bnd ((c67 || (decide (a21.a ≠ ((W (a73 - 1))))))) fun c78 => (if (c78 || (decide (a21.a < 0))) = true then some (.inr ((.inr (([], false))))) else (ix ((y7.set m26 x18_l0)) a21.a).bind fun a88 => (ck x18_l0 ((y7.set m26 x18_l0)).length).bind fun m90 => some (.inl (((((y7.set m26 x18_l0)).set m90 a88), (W (x18_l0 + 1)))))) else some (.inr ((.inr (([], false)))))))) else some (.inr ((.inl y7))))
noncomputable def impl_begins (p0 : (List TNode)) (g1 : (TNode → Option Int)) : Option ((List Int) × Bool) := (if (!(impl_inRange ((p0.length : Int)) 1 31)) = true then some (([], false)) else (mk 8 (0 : Int) ((p0.length : Int))).bind fun z15 => (loop (fun s : ((List Int) × Int) => impl_begins.b0 p0 g1 s.1 s.2) ((z15, 0))).bind (Sum.elim (fun q => impl_begins.k0 p0 q) (fun q => some q)))

noncomputable def impl_isTree (p0 : (List TNode)) (g1 : (TNode → Option Int)) : Option Bool := (impl_begins p0 g1).bind fun a10 => some a10.2

noncomputable def impl_leaf (p0 : TNode) (p1 : Int) : Int := bnd ((decide (p0.b = 0))) fun c8 => (if (c8 && (impl_inRange p0.a 0 p1)) = true then 0 else (-1))

noncomputable def impl_exprParts.k0 (p0 : TNode) (x5_1 : Bool) : Int := (if x5_1 = true then (impl_leaf p0 0) else (if p0.kind = 3 then (impl_leaf p0 2) else (if p0.kind = 4 then 1 else (if p0.kind = 5 then (if p0.kind = 5 then 2 else (-1)) else (if p0.kind = 6 then 2 else (-1))))))
noncomputable def impl_exprParts (p0 : TNode) : Int := (if p0.kind = 1 then impl_exprParts.k0 p0 ((decide (p0.kind = 1))) else impl_exprParts.k0 p0 ((decide (p0.kind = 2))))

noncomputable def impl_ltlParts (p0 : TNode) : Int := (if p0.kind = 7 then (if p0.kind = 7 then 1 else (if p0.kind = 8 then (if p0.kind = 8 then 2 else (impl_exprParts p0)) else (if p0.kind = 9 then 2 else (impl_exprParts p0)))) else (if p0.kind = 10 then (if p0.kind = 10 then 1 else (if p0.kind = 8 then (if p0.kind = 8 then 2 else (impl_exprParts p0)) else (if p0.kind = 9 then 2 else (impl_exprParts p0)))) else (if p0.kind = 11 then 1 else (if p0.kind = 8 then (if p0.kind = 8 then 2 else (impl_exprParts p0)) else (if p0.kind = 9 then 2 else (impl_exprParts p0))))))

noncomputable def impl_LtlOk (p0 : (List TNode)) : Option Bool := (impl_isTree p0 ((fun q0 => some (impl_ltlParts q0)))).bind fun a4 => some a4

noncomputable def impl_temporal.k0 (y3 : (List Int)) : Option (List Int) := some y3
noncomputable def impl_temporal.b0 (p0 : (List TNode)) (y7 : (List Int)) (x8_l0 : Int) : Option (((List Int) × Int) ⊕ (List Int)) := (if x8_l0 < ((p0.length : Int)) then (ix p0 x8_l0).bind fun a11 => (if a11.kind ≥ 7 then (app 8 y7 ([x8_l0])).bind fun z19 => some (.inl ((z19, (W (x8_l0 + 1))))) else some (.inl ((y7, (W (x8_l0 + 1)))))) else some (.inr y7))
noncomputable def impl_temporal (p0 : (List TNode)) : Option (List Int) := (loop (fun s : ((List Int) × Int) => impl_temporal.b0 p0 s.1 s.2) (([], 0))).bind (fun q => impl_temporal.k0 q)

noncomputable def slices_Index_int_int.k0 : Option Int := some ((-1))
noncomputable def slices_Index_int_int.b0 (p0 : (List Int)) (p1 : Int) (x8_l0 : Int) : Option (Int ⊕ (Unit ⊕ Int)) := (if x8_l0 < ((p0.length : Int)) then (ix p0 x8_l0).bind fun a14 => (if p1 = a14 then some (.inr ((.inr x8_l0))) else some (.inl ((W (x8_l0 + 1))))) else some (.inr ((.inl (())))))
noncomputable def slices_Index_int_int (p0 : (List Int)) (p1 : Int) : Option Int := (loop (fun s : Int => slices_Index_int_int.b0 p0 p1 s) 0).bind (Sum.elim (fun q => slices_Index_int_int.k0) (fun q => some q))

noncomputable def impl_has (p0 : Int) (p1 : Int) : Bool := (decide (((bAnd .i64 ((shr .i64 p0 ((IntKind.u64.wrap p1)))) 1)) = 1))

noncomputable def impl_plain (p0 : TNode) (p1 : (List Bool)) (p2 : Int) : Option Bool := (if p0.kind = 1 then some true else (if p0.kind = 3 then some ((impl_has p2 p0.a)) else (if p0.kind = 4 then (ix p1 p0.a).bind fun a22 => some ((!a22)) else (if p0.kind = 5 then (ix p1 p0.a).bind fun a30 => (whenO a30 (ix p1 p0.b)).bind fun a36 => some ((a30 && a36)) else (if p0.kind = 6 then (ix p1 p0.a).bind fun a44 => (whenO (!a44) (ix p1 p0.b)).bind fun a50 => some ((a44 || a50)) else some false)))))

noncomputable def impl_soBy (p0 : TNode) (p1 : (List Bool)) (p2 : Int) (p3 : Bool) : Option Bool := (if p0.kind = 7 then some p3 else (if p0.kind = 8 then (ix p1 p0.b).bind fun a19 => (whenO (!a19) (ix p1 p0.a)).bind fun a25 => some ((a19 || (a25 && p3))) else (if p0.kind = 9 then (ix p1 p0.b).bind fun a36 => (whenO a36 (ix p1 p0.a)).bind fun a42 => some ((a36 && (a42 || p3))) else (if p0.kind = 10 then (ix p1 p0.a).bind fun a53 => some ((a53 || p3)) else (if p0.kind = 11 then (ix p1 p0.a).bind fun a63 => some ((a63 && p3)) else (impl_plain p0 p1 p2).bind fun a71 => some a71)))))

noncomputable def impl_stepOf.k0 (y4 : (List Bool)) : Option (List Bool) := some y4
noncomputable def impl_stepOf.b0 (p0 : (List TNode)) (a16 : (List Int)) (p1 : Int) (p2 : Int) (y6 : (List Bool)) (x19_l0 : Int) : Option (((List Bool) × Int) ⊕ (List Bool)) := (if x19_l0 < ((p0.length : Int)) then (ix p0 x19_l0).bind fun a22 => (slices_Index_int_int a16 x19_l0).bind fun a26 => bnd ((decide (a26 ≥ 0))) fun c34 => (impl_soBy a22 y6 p1 ((c34 && (impl_has p2 a26)))).bind fun a39 => (ck x19_l0 y6.length).bind fun m40 => some (.inl (((y6.set m40 a39), (W (x19_l0 + 1))))) else some (.inr y6))
noncomputable def impl_stepOf (p0 : (List TNode)) (p1 : Int) (p2 : Int) : Option (List Bool) := (mk 1 false ((p0.length : Int))).bind fun z14 => (impl_temporal p0).bind fun a16 => (loop (fun s : ((List Bool) × Int) => impl_stepOf.b0 p0 a16 p1 p2 s.1 s.2) ((z14, 0))).bind (fun q => impl_stepOf.k0 q)

noncomputable def impl_LtlStep (p0 : (List TNode)) (p1 : Int) (p2 : Int) : Option (List Bool) := bnd ((!(impl_isLetter p1))) fun c10 => bnd ((c10 || (!(impl_SetOk p2)))) fun c15 => (whenO (!c15) (impl_LtlOk p0)).bind fun a17 => (if (c15 || (!a17)) = true then some ([]) else (impl_stepOf p0 p1 p2).bind fun a23 => some a23)

noncomputable def laws_eqBoolS.k0 : Option Bool := some true
noncomputable def laws_eqBoolS.b0 (p0 : (List Bool)) (p1 : (List Bool)) (x5_l0 : Int) : Option (Int ⊕ (Unit ⊕ Bool)) := (if x5_l0 < ((p0.length : Int)) then (ix p0 x5_l0).bind fun a19 => (ix p1 x5_l0).bind fun a23 => (if (!(a19 == a23)) = true then some (.inr ((.inr false))) else some (.inl ((W (x5_l0 + 1))))) else some (.inr ((.inl (())))))
noncomputable def laws_eqBoolS (p0 : (List Bool)) (p1 : (List Bool)) : Option Bool := (if ((p0.length : Int)) ≠ ((p1.length : Int)) then some false else (loop (fun s : Int => laws_eqBoolS.b0 p0 p1 s) 0).bind (Sum.elim (fun q => laws_eqBoolS.k0) (fun q => some q)))

noncomputable def laws_eqNode (p0 : TNode) (p1 : TNode) : Bool := (if p0.kind ≠ p1.kind then false else (if p0.a ≠ p1.a then false else (if p0.b ≠ p1.b then false else true)))

noncomputable def laws_eqNodeS.k0 : Option Bool := some true
noncomputable def laws_eqNodeS.b0 (p0 : (List TNode)) (p1 : (List TNode)) (x5_l0 : Int) : Option (Int ⊕ (Unit ⊕ Bool)) := (if x5_l0 < ((p0.length : Int)) then (ix p0 x5_l0).bind fun a19 => (ix p1 x5_l0).bind fun a23 => (if (!(laws_eqNode a19 a23)) = true then some (.inr ((.inr false))) else some (.inl ((W (x5_l0 + 1))))) else some (.inr ((.inl (())))))
noncomputable def laws_eqNodeS (p0 : (List TNode)) (p1 : (List TNode)) : Option Bool := (if ((p0.length : Int)) ≠ ((p1.length : Int)) then some false else (loop (fun s : Int => laws_eqNodeS.b0 p0 p1 s) 0).bind (Sum.elim (fun q => laws_eqNodeS.k0) (fun q => some q)))

noncomputable def laws_markNodeS.k0 (x1_1 : Int) (y2 : (List TNode)) : Option (Int × (List TNode)) := some ((x1_1, y2))
noncomputable def laws_markNodeS.b0 (y4 : (List TNode)) (x1_l0 : Int) (x5_l0 : Int) : Option (((List TNode) × Int × Int) ⊕ (Int × (List TNode))) := (if x5_l0 < ((y4.length : Int)) then (ck x5_l0 y4.length).bind fun m15 => (ck x5_l0 ((y4.set m15 ((fun q : TNode => { q with kind := x1_l0 }) (y4.getD m15 default)))).length).bind fun m22 => (ck x5_l0 ((((y4.set m15 ((fun q : TNode => { q with kind := x1_l0 }) (y4.getD m15 default)))).set m22 ((fun q : TNode => { q with a := (W (x1_l0 + 1)) }) (((y4.set m15 ((fun q : TNode => { q with kind := x1_l0 }) (y4.getD m15 default)))).getD m22 default)))).length).bind fun m29 => some (.inl (((((((y4.set m15 ((fun q : TNode => { q with kind := x1_l0 }) (y4.getD m15 default)))).set m22 ((fun q : TNode => { q with a := (W (x1_l0 + 1)) }) (((y4.set m15 ((fun q : TNode => { q with kind := x1_l0 }) (y4.getD m15 default)))).getD m22 default)))).set m29 ((fun q : TNode => { q with b := (W (((W (x1_l0 + 1))) + 1)) }) (((((y4.set m15 ((fun q : TNode => { q with kind := x1_l0 }) (y4.getD m15 default)))).set m22 ((fun q : TNode => { q with a := (W (x1_l0 + 1)) }) (((y4.set m15 ((fun q : TNode => { q with kind := x1_l0 }) (y4.getD m15 default)))).getD m22 default)))).getD m29 default))), (W (((W (((W (x1_l0 + 1))) + 1))) + 1)), (W (x5_l0 + 1))))) else some (.inr ((x1_l0, y4))))
noncomputable def laws_markNodeS (p0 : (List TNode)) (p1 : Int) : Option (Int × (List TNode)) := (loop (fun s : ((List TNode) × Int × Int) => laws_markNodeS.b0 s.1 s.2.1 s.2.2) ((p0, p1, 0))).bind (fun q => laws_markNodeS.k0 q.1 q.2)

noncomputable def laws_markBoolS.k0 (x1_1 : Int) (y2 : (List Bool)) : Option (Int × (List Bool)) := some ((x1_1, y2))
noncomputable def laws_markBoolS.b0 (y4 : (List Bool)) (x1_l0 : Int) (x5_l0 : Int) : Option (((List Bool) × Int × Int) ⊕ (Int × (List Bool))) := (if x5_l0 < ((y4.length : Int)) then (ck x5_l0 y4.length).bind fun m17 => some (.inl (((y4.set m17 ((decide (((Int.tmod x1_l0 3)) = 0)))), (W (x1_l0 + 1)), (W (x5_l0 + 1))))) else some (.inr ((x1_l0, y4))))
noncomputable def laws_markBoolS (p0 : (List Bool)) (p1 : Int) : Option (Int × (List Bool)) := (loop (fun s : ((List Bool) × Int × Int) => laws_markBoolS.b0 s.1 s.2.1 s.2.2) ((p0, p1, 0))).bind (fun q => laws_markBoolS.k0 q.1 q.2)

noncomputable def laws_heldBoolS.k0 (x1_1 : Int) : Option Int := some x1_1
noncomputable def laws_heldBoolS.b0 (p0 : (List Bool)) (x1_l0 : Int) (x5_l0 : Int) : Option ((Int × Int) ⊕ (Int ⊕ Int)) := (if x5_l0 < ((p0.length : Int)) then (ix p0 x5_l0).bind fun a14 => (if (!(a14 == (decide (((Int.tmod x1_l0 3)) = 0)))) = true then some (.inr ((.inr ((-1))))) else some (.inl (((W (x1_l0 + 1)), (W (x5_l0 + 1)))))) else some (.inr ((.inl x1_l0))))
noncomputable def laws_heldBoolS (p0 : (List Bool)) (p1 : Int) : Option Int := (loop (fun s : (Int × Int) => laws_heldBoolS.b0 p0 s.1 s.2) ((p1, 0))).bind (Sum.elim (fun q => laws_heldBoolS.k0 q) (fun q => some q))

noncomputable def laws_FnExactLtlStep (p0 : (List TNode)) (p1 : Int) (p2 : Int) : Option Bool := (if ((laws_szNodeS p0 1048576)) < 0 then some true else (laws_toNodeS p0).bind fun a21 => (spec_LtlStep a21 p1 p2).bind fun a24 => (laws_toNodeS p0).bind fun a26 => (impl_LtlStep a26 p1 p2).bind fun a30 => (laws_eqBoolS a30 a24).bind fun a33 => (if (!a33) = true then some false else (laws_toNodeS p0).bind fun a37 => (laws_eqNodeS a26 a37).bind fun a38 => (if (!a38) = true then some false else (laws_markNodeS a26 1).bind fun a42 => bnd ((decide (a42.1 < 0))) fun c45 => (whenO (!c45) (laws_eqBoolS a30 a24)).bind fun a48 => (if (c45 || (!a48)) = true then some false else (laws_markBoolS a30 1).bind fun a53 => (laws_heldBoolS a53.2 1).bind fun a56 => (if a56 < 0 then some false else (if a56 ≠ a53.1 then some false else (laws_toNodeS p0).bind fun a63 => (impl_LtlStep a63 p1 p2).bind fun a66 => (laws_eqBoolS a66 a24).bind fun a69 => (if (!a69) = true then some false else (laws_heldBoolS a53.2 1).bind fun a73 => (if a73 < 0 then some false else (if a73 ≠ a53.1 then some false else some true)))))))))

end Go.Proofs.Ytoeeihjhakacfaa
