/- Plain functions that the program's functions come to: FnExactLtlTable. -/
import Derived.Test.YtjjlkncefgfljaaTy
namespace Go.Proofs.Ytjjlkncefgfljaa
open Go Go.RowKit E
set_option linter.unusedVariables false
noncomputable def laws_szNodeS (p0 : (List TNode)) (p1 : Int) : Int := (if ((W (p1 - ((p0.length : Int))))) < 0 then (-1) else (W (p1 - ((p0.length : Int)))))

noncomputable def laws_szIntS (p0 : (List Int)) (p1 : Int) : Int := (if ((W (p1 - ((p0.length : Int))))) < 0 then (-1) else (W (p1 - ((p0.length : Int)))))

noncomputable def laws_szWord (p0 : TWord) (p1 : Int) : Int := (if ((laws_szIntS p0.stem p1)) < 0 then (-1) else (if ((laws_szIntS p0.loop ((laws_szIntS p0.stem p1)))) < 0 then (-1) else (laws_szIntS p0.loop ((laws_szIntS p0.stem p1)))))

noncomputable def laws_toNode (p0 : TNode) : TNode := p0

noncomputable def laws_toNodeS.k0 (y4 : (List TNode)) : Option (List TNode) := some y4
noncomputable def laws_toNodeS.b0 (p0 : (List TNode)) (y6 : (List TNode)) (x4_l0 : Int) : Option (((List TNode) × Int) ⊕ (List TNode)) := (if x4_l0 < ((p0.length : Int)) then (ix p0 x4_l0).bind fun a18 => (ck x4_l0 y6.length).bind fun m21 => some (.inl (((y6.set m21 ((laws_toNode a18))), (W (x4_l0 + 1))))) else some (.inr y6))
noncomputable def laws_toNodeS (p0 : (List TNode)) : Option (List TNode) := (mk 24 (TNode.mk (0 : Int) (0 : Int) (0 : Int)) ((p0.length : Int))).bind fun z7 => (loop (fun s : ((List TNode) × Int) => laws_toNodeS.b0 p0 s.1 s.2) ((z7, 0))).bind (fun q => laws_toNodeS.k0 q)

noncomputable def laws_toIntS.k0 (y4 : (List Int)) : Option (List Int) := some y4
noncomputable def laws_toIntS.b0 (p0 : (List Int)) (y6 : (List Int)) (x4_l0 : Int) : Option (((List Int) × Int) ⊕ (List Int)) := (if x4_l0 < ((p0.length : Int)) then (ix p0 x4_l0).bind fun a18 => (ck x4_l0 y6.length).bind fun m20 => some (.inl (((y6.set m20 a18), (W (x4_l0 + 1))))) else some (.inr y6))
noncomputable def laws_toIntS (p0 : (List Int)) : Option (List Int) := (mk 8 (0 : Int) ((p0.length : Int))).bind fun z7 => (loop (fun s : ((List Int) × Int) => laws_toIntS.b0 p0 s.1 s.2) ((z7, 0))).bind (fun q => laws_toIntS.k0 q)

noncomputable def laws_toWord (p0 : TWord) : Option TWord := (laws_toIntS p0.stem).bind fun a6 => (laws_toIntS p0.loop).bind fun a10 => some ((TWord.mk a6 a10))

noncomputable def spec_l1In (p0 : Int) (p1 : Int) (p2 : Int) : Bool := bnd ((decide (p0 ≥ p1))) fun c10 => (c10 && (decide (p0 ≤ p2)))

noncomputable def spec_l8Parts.k1 (p0 : Int) (x8_2 : Bool) : Int := (if x8_2 = true then 1 else (if p0 = 5 then (if p0 = 5 then 2 else (-1)) else (if p0 = 6 then (if p0 = 6 then 2 else (-1)) else (if p0 = 8 then (if p0 = 8 then 2 else (-1)) else (if p0 = 9 then 2 else (-1))))))
noncomputable def spec_l8Parts.k0 (p0 : Int) (x4_1 : Bool) : Int := (if x4_1 = true then 0 else (if p0 = 4 then spec_l8Parts.k1 p0 ((decide (p0 = 4))) else (if p0 = 7 then spec_l8Parts.k1 p0 ((decide (p0 = 7))) else (if p0 = 10 then spec_l8Parts.k1 p0 ((decide (p0 = 10))) else spec_l8Parts.k1 p0 ((decide (p0 = 11)))))))
noncomputable def spec_l8Parts (p0 : Int) : Int := (if p0 = 1 then spec_l8Parts.k0 p0 ((decide (p0 = 1))) else (if p0 = 2 then spec_l8Parts.k0 p0 ((decide (p0 = 2))) else spec_l8Parts.k0 p0 ((decide (p0 = 3)))))

noncomputable def spec_l2Leaf (p0 : TNode) : Bool := (if p0.kind = 3 then (spec_l1In p0.a 0 2) else (decide (p0.a = 0)))

noncomputable def spec_l2Sizes.k0 (y4 : (List Int)) : Option (List Int) := some y4
noncomputable def spec_l2Sizes.b0 (p0 : (List TNode)) (p1 : (List Int)) (y8 : (List Int)) (x6_l0 : Int) : Option (((List Int) × Int) ⊕ ((List Int) ⊕ (List Int))) := (if x6_l0 < ((p0.length : Int)) then (ix p0 x6_l0).bind fun a19 => (ix p1 x6_l0).bind fun a23 => (if a23 = 1 then bnd ((decide (x6_l0 < 1))) fun c33 => bnd ((c33 || (decide (a19.a ≠ ((W (x6_l0 - 1))))))) fun c40 => (if (c40 || (decide (a19.b ≠ 0))) = true then some (.inr ((.inr ([])))) else (ix y8 ((W (x6_l0 - 1)))).bind fun a49 => (app 8 y8 ([(W (1 + a49))])).bind fun z95 => some (.inl ((z95, (W (x6_l0 + 1)))))) else (if a23 = 2 then bnd ((decide (x6_l0 < 2))) fun c56 => (if (c56 || (decide (a19.b ≠ ((W (x6_l0 - 1)))))) = true then some (.inr ((.inr ([])))) else (ix y8 ((W (x6_l0 - 1)))).bind fun a69 => bnd ((decide (((W (((W (x6_l0 - 1))) - a69))) < 0))) fun c74 => (if (c74 || (decide (a19.a ≠ ((W (((W (x6_l0 - 1))) - a69)))))) = true then some (.inr ((.inr ([])))) else (ix y8 ((W (x6_l0 - 1)))).bind fun a84 => (ix y8 ((W (((W (x6_l0 - 1))) - a69)))).bind fun a89 => (app 8 y8 ([(W (((W (1 + a84))) + a89))])).bind fun z95 => some (.inl ((z95, (W (x6_l0 + 1))))))) else (if a19.b ≠ 0 then some (.inr ((.inr ([])))) else (app 8 y8 ([1])).bind fun z95 => some (.inl ((z95, (W (x6_l0 + 1)))))))) else some (.inr ((.inl y8))))
noncomputable def spec_l2Sizes (p0 : (List TNode)) (p1 : (List Int)) : Option (List Int) := (loop (fun s : ((List Int) × Int) => spec_l2Sizes.b0 p0 p1 s.1 s.2) (([], 0))).bind (Sum.elim (fun q => spec_l2Sizes.k0 q) (fun q => some q))

noncomputable def spec_LtlOk.k0 (p0 : (List TNode)) (y4 : (List Int)) : Option Bool := (spec_l2Sizes p0 y4).bind fun a44 => bnd ((decide (((a44.length : Int)) = ((p0.length : Int))))) fun c50 => (whenO c50 (ix a44 ((W (((p0.length : Int)) - 1))))).bind fun a55 => some ((c50 && (decide (a55 = ((p0.length : Int))))))
noncomputable def spec_LtlOk.b0 (p0 : (List TNode)) (y8 : (List Int)) (x4_l0 : Int) : Option (((List Int) × Int) ⊕ ((List Int) ⊕ Bool)) := (if x4_l0 < ((p0.length : Int)) then (ix p0 x4_l0).bind fun a20 => bnd ((decide (((spec_l8Parts a20.kind)) < 0))) fun c26 => bnd ((decide (((spec_l8Parts a20.kind)) = 0))) fun c29 => (whenO ((!c26) && c29) (ix p0 x4_l0)).bind fun a32 => (if (c26 || (c29 && (!(spec_l2Leaf a32)))) = true then some (.inr ((.inr false))) else (app 8 y8 ([(spec_l8Parts a20.kind)])).bind fun z41 => some (.inl ((z41, (W (x4_l0 + 1)))))) else some (.inr ((.inl y8))))
noncomputable def spec_LtlOk (p0 : (List TNode)) : Option Bool := (if (!(spec_l1In ((p0.length : Int)) 1 31)) = true then some false else (loop (fun s : ((List Int) × Int) => spec_LtlOk.b0 p0 s.1 s.2) (([], 0))).bind (Sum.elim (fun q => spec_LtlOk.k0 p0 q) (fun q => some q)))

noncomputable def spec_l3Letters.k0 : Option Bool := some true
noncomputable def spec_l3Letters.b0 (p0 : (List Int)) (p1 : Int) (x5_l0 : Int) : Option (Int ⊕ (Unit ⊕ Bool)) := (if x5_l0 < ((p0.length : Int)) then (ix p0 x5_l0).bind fun a14 => (if (!(spec_l1In a14 0 ((W (p1 - 1))))) = true then some (.inr ((.inr false))) else some (.inl ((W (x5_l0 + 1))))) else some (.inr ((.inl (())))))
noncomputable def spec_l3Letters (p0 : (List Int)) (p1 : Int) : Option Bool := (loop (fun s : Int => spec_l3Letters.b0 p0 p1 s) 0).bind (Sum.elim (fun q => spec_l3Letters.k0) (fun q => some q))

noncomputable def spec_WordOk (p0 : TWord) (p1 : Int) : Option Bool := bnd ((!(spec_l1In p1 1 8))) fun c8 => bnd ((c8 || (decide (((p0.stem.length : Int)) > 40)))) fun c14 => (if (c14 || (!(spec_l1In ((p0.loop.length : Int)) 1 40))) = true then some false else (spec_l3Letters p0.stem p1).bind fun a24 => (whenO a24 (spec_l3Letters p0.loop p1)).bind fun a29 => some ((a24 && a29)))

noncomputable def spec_l3Right (p0 : TWord) : Option Bool := (spec_WordOk p0 8).bind fun a4 => some a4

noncomputable def spec_l6Places (p0 : TWord) : Int := (W (((p0.stem.length : Int)) + ((p0.loop.length : Int))))

noncomputable def spec_l6After (p0 : TWord) (p1 : Int) : Int := (if ((W (p1 + 1))) = ((spec_l6Places p0)) then (p0.stem.length : Int) else (W (p1 + 1)))

noncomputable def spec_l3At (p0 : TWord) (p1 : Int) : Option Int := (if p1 < ((p0.stem.length : Int)) then (ix p0.stem p1).bind fun a13 => some a13 else (chk (decide (((p0.loop.length : Int)) ≠ 0))).bind fun u2 => (ix p0.loop ((Int.tmod ((W (p1 - ((p0.stem.length : Int))))) ((p0.loop.length : Int))))).bind fun a26 => some a26)

noncomputable def spec_l9One (p0 : TNode) (p1 : (List (List Bool))) (p2 : TWord) (p3 : Int) (p4 : (List Bool)) : Option Bool := (if p0.kind = 1 then some true else (if p0.kind = 3 then (spec_l3At p2 p3).bind fun a23 => (chk (decide (0 ≤ p0.a))).bind fun u3 => some ((decide (((bAnd .i64 ((shr .i64 a23 p0.a)) 1)) = 1))) else (if p0.kind = 4 then (ix p1 p0.a).bind fun a34 => (ix a34 p3).bind fun a37 => some ((!a37)) else (if p0.kind = 5 then (ix p1 p0.a).bind fun a45 => (ix a45 p3).bind fun a48 => (whenO a48 (ix p1 p0.b)).bind fun a54 => (whenO a48 (ix a54 p3)).bind fun a57 => some ((a48 && a57)) else (if p0.kind = 6 then (ix p1 p0.a).bind fun a65 => (ix a65 p3).bind fun a68 => (whenO (!a68) (ix p1 p0.b)).bind fun a74 => (whenO (!a68) (ix a74 p3)).bind fun a77 => some ((a68 || a77)) else (if p0.kind = 7 then (ix p1 p0.a).bind fun a85 => (ix a85 ((spec_l6After p2 p3))).bind fun a88 => some a88 else (if p0.kind = 8 then (ix p1 p0.b).bind fun a95 => (ix a95 p3).bind fun a98 => (whenO (!a98) (ix p1 p0.a)).bind fun a104 => (whenO (!a98) (ix a104 p3)).bind fun a107 => (whenO ((!a98) && a107) (ix p4 ((spec_l6After p2 p3)))).bind fun a112 => some ((a98 || (a107 && a112))) else (if p0.kind = 9 then (ix p1 p0.b).bind fun a121 => (ix a121 p3).bind fun a124 => (whenO a124 (ix p1 p0.a)).bind fun a130 => (whenO a124 (ix a130 p3)).bind fun a133 => (whenO (a124 && (!a133)) (ix p4 ((spec_l6After p2 p3)))).bind fun a138 => some ((a124 && (a133 || a138))) else (if p0.kind = 10 then (ix p1 p0.a).bind fun a147 => (ix a147 p3).bind fun a150 => (whenO (!a150) (ix p4 ((spec_l6After p2 p3)))).bind fun a155 => some ((a150 || a155)) else (if p0.kind = 11 then (ix p1 p0.a).bind fun a163 => (ix a163 p3).bind fun a166 => (whenO a166 (ix p4 ((spec_l6After p2 p3)))).bind fun a171 => some ((a166 && a171)) else some false))))))))))

noncomputable def spec_l9Row.k1 (y5 : (List Bool)) : Option (List Bool) := some y5
noncomputable def spec_l9Row.k2 (x10_l0 : Int) (y15 : (List Bool)) : Option (((List Bool) × Int) ⊕ (List Bool)) := some (.inl ((y15, (W (x10_l0 + 1)))))
noncomputable def spec_l9Row.b1 (p0 : TNode) (p1 : (List (List Bool))) (p2 : TWord) (y17 : (List Bool)) (x11_l1 : Int) : Option (((List Bool) × Int) ⊕ (List Bool)) := (if x11_l1 ≥ 0 then (spec_l9One p0 p1 p2 x11_l1 y17).bind fun a49 => (ck x11_l1 y17.length).bind fun m50 => some (.inl (((y17.set m50 a49), (W (x11_l1 - 1))))) else some (.inr y17))
noncomputable def spec_l9Row.b0 (p0 : TNode) (p1 : (List (List Bool))) (p2 : TWord) (y7 : (List Bool)) (x10_l0 : Int) : Option (((List Bool) × Int) ⊕ (List Bool)) := (if x10_l0 < 2 then (loop (fun s : ((List Bool) × Int) => spec_l9Row.b1 p0 p1 p2 s.1 s.2) ((y7, (W (((spec_l6Places p2)) - 1))))).bind (fun q => spec_l9Row.k2 x10_l0 q) else some (.inr y7))
noncomputable def spec_l9Row.k0 (p0 : TNode) (p1 : (List (List Bool))) (p2 : TWord) (y4 : (List Bool)) : Option (List Bool) := (loop (fun s : ((List Bool) × Int) => spec_l9Row.b0 p0 p1 p2 s.1 s.2) ((y4, 0))).bind (fun q => spec_l9Row.k1 q)
noncomputable def spec_l9Row.b2 (p2 : TWord) (p0 : TNode) (y27 : (List Bool)) (x9_l2 : Int) : Option (((List Bool) × Int) ⊕ (List Bool)) := (if x9_l2 < ((spec_l6Places p2)) then bnd ((decide (p0.kind = 9))) fun c26 => (ck x9_l2 y27.length).bind fun m31 => some (.inl (((y27.set m31 ((c26 || (decide (p0.kind = 11))))), (W (x9_l2 + 1))))) else some (.inr y27))
noncomputable def spec_l9Row (p0 : TNode) (p1 : (List (List Bool))) (p2 : TWord) : Option (List Bool) := (mk 1 false ((spec_l6Places p2))).bind fun z15 => (loop (fun s : ((List Bool) × Int) => spec_l9Row.b2 p2 p0 s.1 s.2) ((z15, 0))).bind (fun q => spec_l9Row.k0 p0 p1 p2 q)

noncomputable def spec_LtlTable.k0 (y5 : (List (List Bool))) : Option (List (List Bool)) := some y5
noncomputable def spec_LtlTable.b0 (p0 : (List TNode)) (p1 : TWord) (y10 : (List (List Bool))) (x6_l0 : Int) : Option (((List (List Bool)) × Int) ⊕ (List (List Bool))) := (if x6_l0 < ((p0.length : Int)) then (ix p0 x6_l0).bind fun a26 => (spec_l9Row a26 y10 p1).bind fun a30 => (app 24 y10 [a30]).bind fun z32 => some (.inl ((z32, (W (x6_l0 + 1))))) else some (.inr y10))
noncomputable def spec_LtlTable (p0 : (List TNode)) (p1 : TWord) : Option (List (List Bool)) := (spec_LtlOk p0).bind fun a9 => bnd ((!a9)) fun c11 => (whenO (!c11) (spec_l3Right p1)).bind fun a13 => (if (c11 || (!a13)) = true then some ([]) else (loop (fun s : ((List (List Bool)) × Int) => spec_LtlTable.b0 p0 p1 s.1 s.2) (([], 0))).bind (fun q => spec_LtlTable.k0 q))

noncomputable def impl_inRange (p0 : Int) (p1 : Int) (p2 : Int) : Bool := bnd ((decide (p0 ≥ p1))) fun c10 => (c10 && (decide (p0 ≤ p2)))

noncomputable def impl_begins.k0 (p0 : (List TNode)) (y4 : (List Int)) : Option ((List Int) × Bool) := (ix y4 ((W (((p0.length : Int)) - 1)))).bind fun a97 => some ((y4, (decide (a97 = 0))))
noncomputable def impl_begins.b0 (p0 : (List TNode)) (g1 : (TNode → Option Int)) (y7 : (List Int)) (x18_l0 : Int) : Option (((List Int) × Int) ⊕ ((List Int) ⊕ ((List Int) × Bool))) := (if x18_l0 < ((p0.length : Int)) then (ix p0 x18_l0).bind fun a21 => (ck x18_l0 y7.length).bind fun m26 => (g1 a21).bind fun a29 => (if a29 = 0 then some (.inl (((y7.set m26 x18_l0), (W (x18_l0 + 1))))) else (if a29 = 1 then bnd ((decide (x18_l0 = 0))) fun c36 => bnd ((c36 || (decide (a21.a ≠ ((W (x18_l0 - 1))))))) fun c43 => (if (c43 || (decide (a21.b ≠ 0))) = true then some (.inr ((.inr (([], false))))) else (ix ((y7.set m26 x18_l0)) a21.a).bind fun a53 => (ck x18_l0 ((y7.set m26 x18_l0)).length).bind fun m55 => some (.inl (((((y7.set m26 x18_l0)).set m55 a53), (W (x18_l0 + 1)))))) else (if a29 = 2 then bnd ((decide (x18_l0 = 0))) fun c60 => bnd ((c60 || (decide (a21.b ≠ ((W (x18_l0 - 1))))))) fun c67 => (whenO (!c67) (ix ((y7.set m26 x18_l0)) ((W (x18_l0 - 1))))).bind fun a73 => bnd ((c67 || (decide (a21.a ≠ ((W (a73 - 1))))))) fun c78 => (if (c78 || (decide (a21.a < 0))) = true then some (.inr ((.inr (([], false))))) else (ix ((y7.set m26 x18_l0)) a21.a).bind fun a88 => (ck x18_l0 ((y7.set m26 x18_l0)).length).bind fun m90 => some (.inl (((((y7.set m26 x18_l0)).set m90 a88), (W (x18_l0 + 1)))))) else some (.inr ((.inr (([], false)))))))) else some (.inr ((.inl y7))))
noncomputable def impl_begins (p0 : (List TNode)) (g1 : (TNode → Option Int)) : Option ((List Int) × Bool) := (if (!(impl_inRange ((p0.length : Int)) 1 31)) = true then some (([], false)) else (mk 8 (0 : Int) ((p0.length : Int))).bind fun z15 => (loop (fun s : ((List Int) × Int) => impl_begins.b0 p0 g1 s.1 s.2) ((z15, 0))).bind (Sum.elim (fun q => impl_begins.k0 p0 q) (fun q => some q)))

noncomputable def impl_isTree (p0 : (List TNode)) (g1 : (TNode → Option Int)) : Option Bool := (impl_begins p0 g1).bind fun a10 => some a10.2

noncomputable def impl_leaf (p0 : TNode) (p1 : Int) : Int := bnd ((decide (p0.b = 0))) fun c8 => (if (c8 && (impl_inRange p0.a 0 p1)) = true then 0 else (-1))

noncomputable def impl_exprParts.k0 (p0 : TNode) (x5_1 : Bool) : Int := (if x5_1 = true then (impl_leaf p0 0) else (if p0.kind = 3 then (impl_leaf p0 2) else (if p0.kind = 4 then 1 else (if p0.kind = 5 then (if p0.kind = 5 then 2 else (-1)) else (if p0.kind = 6 then 2 else (-1))))))
noncomputable def impl_exprParts (p0 : TNode) : Int := (if p0.kind = 1 then impl_exprParts.k0 p0 ((decide (p0.kind = 1))) else impl_exprParts.k0 p0 ((decide (p0.kind = 2))))

noncomputable def impl_ltlParts (p0 : TNode) : Int := (if p0.kind = 7 then (if p0.kind = 7 then 1 else (if p0.kind = 8 then (if p0.kind = 8 then 2 else (impl_exprParts p0)) else (if p0.kind = 9 then 2 else (impl_exprParts p0)))) else (if p0.kind = 10 then (if p0.kind = 10 then 1 else (if p0.kind = 8 then (if p0.kind = 8 then 2 else (impl_exprParts p0)) else (if p0.kind = 9 then 2 else (impl_exprParts p0)))) else (if p0.kind = 11 then 1 else (if p0.kind = 8 then (if p0.kind = 8 then 2 else (impl_exprParts p0)) else (if p0.kind = 9 then 2 else (impl_exprParts p0))))))

noncomputable def impl_LtlOk (p0 : (List TNode)) : Option Bool := (impl_isTree p0 ((fun q0 => some (impl_ltlParts q0)))).bind fun a4 => some a4

noncomputable def impl_isLetters (p0 : Int) : Bool := (impl_inRange p0 1 8)

noncomputable def impl_areLetters.k0 : Option Bool := some true
noncomputable def impl_areLetters.b0 (p0 : (List Int)) (p1 : Int) (x9_l0 : Int) : Option (Int ⊕ (Unit ⊕ Bool)) := (if x9_l0 < ((p0.length : Int)) then (ix p0 x9_l0).bind fun a11 => (if (!(impl_inRange a11 0 ((W (p1 - 1))))) = true then some (.inr ((.inr false))) else some (.inl ((W (x9_l0 + 1))))) else some (.inr ((.inl (())))))
noncomputable def impl_areLetters (p0 : (List Int)) (p1 : Int) : Option Bool := (loop (fun s : Int => impl_areLetters.b0 p0 p1 s) 0).bind (Sum.elim (fun q => impl_areLetters.k0) (fun q => some q))

noncomputable def impl_WordOk (p0 : TWord) (p1 : Int) : Option Bool := bnd ((!(impl_isLetters p1))) fun c8 => bnd ((c8 || (decide (((p0.stem.length : Int)) > 40)))) fun c14 => (if (c14 || (!(impl_inRange ((p0.loop.length : Int)) 1 40))) = true then some false else (impl_areLetters p0.stem p1).bind fun a24 => (whenO a24 (impl_areLetters p0.loop p1)).bind fun a29 => some ((a24 && a29)))

noncomputable def impl_isRight (p0 : TWord) : Option Bool := (impl_WordOk p0 8).bind fun a4 => some a4

noncomputable def impl_Word_places (p0 : TWord) : Int := (W (((p0.stem.length : Int)) + ((p0.loop.length : Int))))

noncomputable def impl_Word_next (p0 : TWord) (p1 : Int) : Int := (if ((W (p1 + 1))) = ((impl_Word_places p0)) then (p0.stem.length : Int) else (W (p1 + 1)))

noncomputable def impl_columnOf.k0 (y4 : (List Bool)) : Option (List Bool) := some y4
noncomputable def impl_columnOf.b0 (p0 : TNode) (p1 : (List (List Bool))) (p2 : Int) (y6 : (List Bool)) (x18_l0 : Int) : Option (((List Bool) × Int) ⊕ (List Bool)) := (if x18_l0 < 2 then (ix ([p0.a, p0.b]) x18_l0).bind fun a20 => (if a20 < ((p1.length : Int)) then (ix p1 a20).bind fun a29 => (ix a29 p2).bind fun a32 => (ck a20 y6.length).bind fun m34 => some (.inl (((y6.set m34 a32), (W (x18_l0 + 1))))) else some (.inl ((y6, (W (x18_l0 + 1)))))) else some (.inr y6))
noncomputable def impl_columnOf (p0 : TNode) (p1 : (List (List Bool))) (p2 : Int) : Option (List Bool) := (mk 1 false ((p1.length : Int))).bind fun z12 => (loop (fun s : ((List Bool) × Int) => impl_columnOf.b0 p0 p1 p2 s.1 s.2) ((z12, 0))).bind (fun q => impl_columnOf.k0 q)

noncomputable def impl_Word_letter (p0 : TWord) (p1 : Int) : Option Int := (if p1 < ((p0.stem.length : Int)) then (ix p0.stem p1).bind fun a17 => some a17 else (ix p0.loop ((W (p1 - ((p0.stem.length : Int)))))).bind fun a30 => some a30)

noncomputable def impl_has (p0 : Int) (p1 : Int) : Bool := (decide (((bAnd .i64 ((shr .i64 p0 ((IntKind.u64.wrap p1)))) 1)) = 1))

noncomputable def impl_plain (p0 : TNode) (p1 : (List Bool)) (p2 : Int) : Option Bool := (if p0.kind = 1 then some true else (if p0.kind = 3 then some ((impl_has p2 p0.a)) else (if p0.kind = 4 then (ix p1 p0.a).bind fun a22 => some ((!a22)) else (if p0.kind = 5 then (ix p1 p0.a).bind fun a30 => (whenO a30 (ix p1 p0.b)).bind fun a36 => some ((a30 && a36)) else (if p0.kind = 6 then (ix p1 p0.a).bind fun a44 => (whenO (!a44) (ix p1 p0.b)).bind fun a50 => some ((a44 || a50)) else some false)))))

noncomputable def impl_soBy (p0 : TNode) (p1 : (List Bool)) (p2 : Int) (p3 : Bool) : Option Bool := (if p0.kind = 7 then some p3 else (if p0.kind = 8 then (ix p1 p0.b).bind fun a19 => (whenO (!a19) (ix p1 p0.a)).bind fun a25 => some ((a19 || (a25 && p3))) else (if p0.kind = 9 then (ix p1 p0.b).bind fun a36 => (whenO a36 (ix p1 p0.a)).bind fun a42 => some ((a36 && (a42 || p3))) else (if p0.kind = 10 then (ix p1 p0.a).bind fun a53 => some ((a53 || p3)) else (if p0.kind = 11 then (ix p1 p0.a).bind fun a63 => some ((a63 && p3)) else (impl_plain p0 p1 p2).bind fun a71 => some a71)))))

noncomputable def impl_rowOf.k1 (y5 : (List Bool)) : Option (List Bool) := some y5
noncomputable def impl_rowOf.k2 (x30_l0 : Int) (y15 : (List Bool)) : Option (((List Bool) × Int) ⊕ (List Bool)) := some (.inl ((y15, (W (x30_l0 + 1)))))
noncomputable def impl_rowOf.k3 (p0 : TNode) (p1 : (List (List Bool))) (x9_l1 : Int) (p2 : TWord) (y17 : (List Bool)) (x10_4 : Bool) : Option (((List Bool) × Int) ⊕ (List Bool)) := (impl_columnOf p0 p1 x9_l1).bind fun a62 => (impl_Word_letter p2 x9_l1).bind fun a64 => (impl_soBy p0 a62 a64 x10_4).bind fun a66 => (ck x9_l1 y17.length).bind fun m67 => some (.inl (((y17.set m67 a66), (W (x9_l1 - 1)))))
noncomputable def impl_rowOf.b1 (p2 : TWord) (p0 : TNode) (p1 : (List (List Bool))) (y17 : (List Bool)) (x9_l1 : Int) : Option (((List Bool) × Int) ⊕ (List Bool)) := (if x9_l1 ≥ 0 then (ix y17 ((impl_Word_next p2 x9_l1))).bind fun a42 => (if p0.kind = 7 then (ix p1 p0.a).bind fun a50 => (ix a50 ((impl_Word_next p2 x9_l1))).bind fun a54 => impl_rowOf.k3 p0 p1 x9_l1 p2 y17 a54 else impl_rowOf.k3 p0 p1 x9_l1 p2 y17 a42) else some (.inr y17))
noncomputable def impl_rowOf.b0 (p2 : TWord) (p0 : TNode) (p1 : (List (List Bool))) (y7 : (List Bool)) (x30_l0 : Int) : Option (((List Bool) × Int) ⊕ (List Bool)) := (if x30_l0 < 2 then (loop (fun s : ((List Bool) × Int) => impl_rowOf.b1 p2 p0 p1 s.1 s.2) ((y7, (W (((y7.length : Int)) - 1))))).bind (fun q => impl_rowOf.k2 x30_l0 q) else some (.inr y7))
noncomputable def impl_rowOf.k0 (p2 : TWord) (p0 : TNode) (p1 : (List (List Bool))) (y4 : (List Bool)) : Option (List Bool) := (loop (fun s : ((List Bool) × Int) => impl_rowOf.b0 p2 p0 p1 s.1 s.2) ((y4, 0))).bind (fun q => impl_rowOf.k1 q)
noncomputable def impl_rowOf.b2 (z12 : (List Bool)) (p0 : TNode) (y29 : (List Bool)) (x15_l2 : Int) : Option (((List Bool) × Int) ⊕ (List Bool)) := (if x15_l2 < ((z12.length : Int)) then bnd ((decide (p0.kind = 9))) fun c23 => (ck x15_l2 y29.length).bind fun m28 => some (.inl (((y29.set m28 ((c23 || (decide (p0.kind = 11))))), (W (x15_l2 + 1))))) else some (.inr y29))
noncomputable def impl_rowOf (p0 : TNode) (p1 : (List (List Bool))) (p2 : TWord) : Option (List Bool) := (mk 1 false ((impl_Word_places p2))).bind fun z12 => (loop (fun s : ((List Bool) × Int) => impl_rowOf.b2 z12 p0 s.1 s.2) ((z12, 0))).bind (fun q => impl_rowOf.k0 p2 p0 p1 q)

noncomputable def impl_tableOf.k0 (y3 : (List (List Bool))) : Option (List (List Bool)) := some y3
noncomputable def impl_tableOf.b0 (p0 : (List TNode)) (p1 : TWord) (y8 : (List (List Bool))) (x10_l0 : Int) : Option (((List (List Bool)) × Int) ⊕ (List (List Bool))) := (if x10_l0 < ((p0.length : Int)) then (ix p0 x10_l0).bind fun a12 => (impl_rowOf a12 y8 p1).bind fun a18 => (app 24 y8 [a18]).bind fun z20 => some (.inl ((z20, (W (x10_l0 + 1))))) else some (.inr y8))
noncomputable def impl_tableOf (p0 : (List TNode)) (p1 : TWord) : Option (List (List Bool)) := (loop (fun s : ((List (List Bool)) × Int) => impl_tableOf.b0 p0 p1 s.1 s.2) (([], 0))).bind (fun q => impl_tableOf.k0 q)

noncomputable def impl_LtlTable (p0 : (List TNode)) (p1 : TWord) : Option (List (List Bool)) := (impl_LtlOk p0).bind fun a6 => bnd ((!a6)) fun c8 => (whenO (!c8) (impl_isRight p1)).bind fun a10 => (if (c8 || (!a10)) = true then some ([]) else (impl_tableOf p0 p1).bind fun a15 => some a15)

noncomputable def laws_eqBoolS.k0 : Option Bool := some true
noncomputable def laws_eqBoolS.b0 (p0 : (List Bool)) (p1 : (List Bool)) (x5_l0 : Int) : Option (Int ⊕ (Unit ⊕ Bool)) := (if x5_l0 < ((p0.length : Int)) then (ix p0 x5_l0).bind fun a19 => (ix p1 x5_l0).bind fun a23 => (if (!(a19 == a23)) = true then some (.inr ((.inr false))) else some (.inl ((W (x5_l0 + 1))))) else some (.inr ((.inl (())))))
noncomputable def laws_eqBoolS (p0 : (List Bool)) (p1 : (List Bool)) : Option Bool := (if ((p0.length : Int)) ≠ ((p1.length : Int)) then some false else (loop (fun s : Int => laws_eqBoolS.b0 p0 p1 s) 0).bind (Sum.elim (fun q => laws_eqBoolS.k0) (fun q => some q)))

noncomputable def laws_eqBoolSS.k0 : Option Bool := some true
noncomputable def laws_eqBoolSS.b0 (p0 : (List (List Bool))) (p1 : (List (List Bool))) (x5_l0 : Int) : Option (Int ⊕ (Unit ⊕ Bool)) := (if x5_l0 < ((p0.length : Int)) then (ix p0 x5_l0).bind fun a19 => (ix p1 x5_l0).bind fun a23 => (laws_eqBoolS a19 a23).bind fun a25 => (if (!a25) = true then some (.inr ((.inr false))) else some (.inl ((W (x5_l0 + 1))))) else some (.inr ((.inl (())))))
noncomputable def laws_eqBoolSS (p0 : (List (List Bool))) (p1 : (List (List Bool))) : Option Bool := (if ((p0.length : Int)) ≠ ((p1.length : Int)) then some false else (loop (fun s : Int => laws_eqBoolSS.b0 p0 p1 s) 0).bind (Sum.elim (fun q => laws_eqBoolSS.k0) (fun q => some q)))

noncomputable def laws_eqNode (p0 : TNode) (p1 : TNode) : Bool := (if p0.kind ≠ p1.kind then false else (if p0.a ≠ p1.a then false else (if p0.b ≠ p1.b then false else true)))

noncomputable def laws_eqNodeS.k0 : Option Bool := some true
noncomputable def laws_eqNodeS.b0 (p0 : (List TNode)) (p1 : (List TNode)) (x5_l0 : Int) : Option (Int ⊕ (Unit ⊕ Bool)) := (if x5_l0 < ((p0.length : Int)) then (ix p0 x5_l0).bind fun a19 => (ix p1 x5_l0).bind fun a23 => (if (!(laws_eqNode a19 a23)) = true then some (.inr ((.inr false))) else some (.inl ((W (x5_l0 + 1))))) else some (.inr ((.inl (())))))
noncomputable def laws_eqNodeS (p0 : (List TNode)) (p1 : (List TNode)) : Option Bool := (if ((p0.length : Int)) ≠ ((p1.length : Int)) then some false else (loop (fun s : Int => laws_eqNodeS.b0 p0 p1 s) 0).bind (Sum.elim (fun q => laws_eqNodeS.k0) (fun q => some q)))

noncomputable def laws_eqIntS.k0 : Option Bool := some true
noncomputable def laws_eqIntS.b0 (p0 : (List Int)) (p1 : (List Int)) (x5_l0 : Int) : Option (Int ⊕ (Unit ⊕ Bool)) := (if x5_l0 < ((p0.length : Int)) then (ix p0 x5_l0).bind fun a19 => (ix p1 x5_l0).bind fun a23 => (if a19 ≠ a23 then some (.inr ((.inr false))) else some (.inl ((W (x5_l0 + 1))))) else some (.inr ((.inl (())))))
noncomputable def laws_eqIntS (p0 : (List Int)) (p1 : (List Int)) : Option Bool := (if ((p0.length : Int)) ≠ ((p1.length : Int)) then some false else (loop (fun s : Int => laws_eqIntS.b0 p0 p1 s) 0).bind (Sum.elim (fun q => laws_eqIntS.k0) (fun q => some q)))

noncomputable def laws_eqWord (p0 : TWord) (p1 : TWord) : Option Bool := (laws_eqIntS p0.stem p1.stem).bind fun a9 => (if (!a9) = true then some false else (laws_eqIntS p0.loop p1.loop).bind fun a15 => (if (!a15) = true then some false else some true))

noncomputable def laws_markNodeS.k0 (x1_1 : Int) (y2 : (List TNode)) : Option (Int × (List TNode)) := some ((x1_1, y2))
noncomputable def laws_markNodeS.b0 (y4 : (List TNode)) (x1_l0 : Int) (x5_l0 : Int) : Option (((List TNode) × Int × Int) ⊕ (Int × (List TNode))) := (if x5_l0 < ((y4.length : Int)) then (ck x5_l0 y4.length).bind fun m15 => (ck x5_l0 ((y4.set m15 ((fun q : TNode => { q with kind := x1_l0 }) (y4.getD m15 default)))).length).bind fun m22 => (ck x5_l0 ((((y4.set m15 ((fun q : TNode => { q with kind := x1_l0 }) (y4.getD m15 default)))).set m22 ((fun q : TNode => { q with a := (W (x1_l0 + 1)) }) (((y4.set m15 ((fun q : TNode => { q with kind := x1_l0 }) (y4.getD m15 default)))).getD m22 default)))).length).bind fun m29 => some (.inl (((((((y4.set m15 ((fun q : TNode => { q with kind := x1_l0 }) (y4.getD m15 default)))).set m22 ((fun q : TNode => { q with a := (W (x1_l0 + 1)) }) (((y4.set m15 ((fun q : TNode => { q with kind := x1_l0 }) (y4.getD m15 default)))).getD m22 default)))).set m29 ((fun q : TNode => { q with b := (W (((W (x1_l0 + 1))) + 1)) }) (((((y4.set m15 ((fun q : TNode => { q with kind := x1_l0 }) (y4.getD m15 default)))).set m22 ((fun q : TNode => { q with a := (W (x1_l0 + 1)) }) (((y4.set m15 ((fun q : TNode => { q with kind := x1_l0 }) (y4.getD m15 default)))).getD m22 default)))).getD m29 default))), (W (((W (((W (x1_l0 + 1))) + 1))) + 1)), (W (x5_l0 + 1))))) else some (.inr ((x1_l0, y4))))
noncomputable def laws_markNodeS (p0 : (List TNode)) (p1 : Int) : Option (Int × (List TNode)) := (loop (fun s : ((List TNode) × Int × Int) => laws_markNodeS.b0 s.1 s.2.1 s.2.2) ((p0, p1, 0))).bind (fun q => laws_markNodeS.k0 q.1 q.2)

noncomputable def laws_markIntS.k0 (x1_1 : Int) (y2 : (List Int)) : Option (Int × (List Int)) := some ((x1_1, y2))
noncomputable def laws_markIntS.b0 (y4 : (List Int)) (x1_l0 : Int) (x5_l0 : Int) : Option (((List Int) × Int × Int) ⊕ (Int × (List Int))) := (if x5_l0 < ((y4.length : Int)) then (ck x5_l0 y4.length).bind fun m15 => some (.inl (((y4.set m15 x1_l0), (W (x1_l0 + 1)), (W (x5_l0 + 1))))) else some (.inr ((x1_l0, y4))))
noncomputable def laws_markIntS (p0 : (List Int)) (p1 : Int) : Option (Int × (List Int)) := (loop (fun s : ((List Int) × Int × Int) => laws_markIntS.b0 s.1 s.2.1 s.2.2) ((p0, p1, 0))).bind (fun q => laws_markIntS.k0 q.1 q.2)

noncomputable def laws_markWord (p0 : TWord) (p1 : Int) : Option (Int × TWord) := (laws_markIntS p0.stem p1).bind fun a8 => (laws_markIntS p0.loop a8.1).bind fun a12 => some ((a12.1, (TWord.mk a8.2 a12.2)))

noncomputable def laws_markBoolS.k0 (x1_1 : Int) (y2 : (List Bool)) : Option (Int × (List Bool)) := some ((x1_1, y2))
noncomputable def laws_markBoolS.b0 (y4 : (List Bool)) (x1_l0 : Int) (x5_l0 : Int) : Option (((List Bool) × Int × Int) ⊕ (Int × (List Bool))) := (if x5_l0 < ((y4.length : Int)) then (ck x5_l0 y4.length).bind fun m17 => some (.inl (((y4.set m17 ((decide (((Int.tmod x1_l0 3)) = 0)))), (W (x1_l0 + 1)), (W (x5_l0 + 1))))) else some (.inr ((x1_l0, y4))))
noncomputable def laws_markBoolS (p0 : (List Bool)) (p1 : Int) : Option (Int × (List Bool)) := (loop (fun s : ((List Bool) × Int × Int) => laws_markBoolS.b0 s.1 s.2.1 s.2.2) ((p0, p1, 0))).bind (fun q => laws_markBoolS.k0 q.1 q.2)

noncomputable def laws_markBoolSS.k0 (x1_1 : Int) (y2 : (List (List Bool))) : Option (Int × (List (List Bool))) := some ((x1_1, y2))
noncomputable def laws_markBoolSS.b0 (y4 : (List (List Bool))) (x1_l0 : Int) (x5_l0 : Int) : Option (((List (List Bool)) × Int × Int) ⊕ (Int × (List (List Bool)))) := (if x5_l0 < ((y4.length : Int)) then (ck x5_l0 y4.length).bind fun m14 => (laws_markBoolS ((y4.getD m14 [])) x1_l0).bind fun a17 => some (.inl (((y4.set m14 a17.2), a17.1, (W (x5_l0 + 1))))) else some (.inr ((x1_l0, y4))))
noncomputable def laws_markBoolSS (p0 : (List (List Bool))) (p1 : Int) : Option (Int × (List (List Bool))) := (loop (fun s : ((List (List Bool)) × Int × Int) => laws_markBoolSS.b0 s.1 s.2.1 s.2.2) ((p0, p1, 0))).bind (fun q => laws_markBoolSS.k0 q.1 q.2)

noncomputable def laws_heldBoolS.k0 (x1_1 : Int) : Option Int := some x1_1
noncomputable def laws_heldBoolS.b0 (p0 : (List Bool)) (x1_l0 : Int) (x5_l0 : Int) : Option ((Int × Int) ⊕ (Int ⊕ Int)) := (if x5_l0 < ((p0.length : Int)) then (ix p0 x5_l0).bind fun a14 => (if (!(a14 == (decide (((Int.tmod x1_l0 3)) = 0)))) = true then some (.inr ((.inr ((-1))))) else some (.inl (((W (x1_l0 + 1)), (W (x5_l0 + 1)))))) else some (.inr ((.inl x1_l0))))
noncomputable def laws_heldBoolS (p0 : (List Bool)) (p1 : Int) : Option Int := (loop (fun s : (Int × Int) => laws_heldBoolS.b0 p0 s.1 s.2) ((p1, 0))).bind (Sum.elim (fun q => laws_heldBoolS.k0 q) (fun q => some q))

noncomputable def laws_heldBoolSS.k0 (x1_1 : Int) : Option Int := some x1_1
noncomputable def laws_heldBoolSS.b0 (p0 : (List (List Bool))) (x1_l0 : Int) (x5_l0 : Int) : Option ((Int × Int) ⊕ (Int ⊕ Int)) := (if x5_l0 < ((p0.length : Int)) then (ix p0 x5_l0).bind fun a14 => (laws_heldBoolS a14 x1_l0).bind fun a17 => (if a17 < 0 then some (.inr ((.inr ((-1))))) else some (.inl ((a17, (W (x5_l0 + 1)))))) else some (.inr ((.inl x1_l0))))
noncomputable def laws_heldBoolSS (p0 : (List (List Bool))) (p1 : Int) : Option Int := (loop (fun s : (Int × Int) => laws_heldBoolSS.b0 p0 s.1 s.2) ((p1, 0))).bind (Sum.elim (fun q => laws_heldBoolSS.k0 q) (fun q => some q))

noncomputable def laws_FnExactLtlTable (p0 : (List TNode)) (p1 : TWord) : Option Bool := (if ((laws_szNodeS p0 1048576)) < 0 then some true else (if ((laws_szWord p1 ((laws_szNodeS p0 1048576)))) < 0 then some true else (laws_toNodeS p0).bind fun a25 => (laws_toWord p1).bind fun a27 => (spec_LtlTable a25 ((TWord.mk a27.stem a27.loop))).bind fun a28 => (laws_toNodeS p0).bind fun a30 => (laws_toWord p1).bind fun a32 => (impl_LtlTable a30 ((TWord.mk a32.stem a32.loop))).bind fun a35 => (laws_eqBoolSS a35 a28).bind fun a38 => (if (!a38) = true then some false else (laws_toNodeS p0).bind fun a42 => (laws_eqNodeS a30 a42).bind fun a43 => (if (!a43) = true then some false else (laws_toWord p1).bind fun a47 => (laws_eqWord ((TWord.mk a32.stem a32.loop)) ((TWord.mk a47.stem a47.loop))).bind fun a48 => (if (!a48) = true then some false else (laws_markNodeS a30 1).bind fun a52 => (laws_markWord ((TWord.mk a32.stem a32.loop)) a52.1).bind fun a55 => bnd ((decide (a55.1 < 0))) fun c58 => (whenO (!c58) (laws_eqBoolSS a35 a28)).bind fun a61 => (if (c58 || (!a61)) = true then some false else (laws_markBoolSS a35 1).bind fun a66 => (laws_heldBoolSS a66.2 1).bind fun a69 => (if a69 < 0 then some false else (if a69 ≠ a66.1 then some false else (laws_toNodeS p0).bind fun a76 => (laws_toWord p1).bind fun a78 => (impl_LtlTable a76 ((TWord.mk a78.stem a78.loop))).bind fun a79 => (laws_eqBoolSS a79 a28).bind fun a82 => (if (!a82) = true then some false else (laws_heldBoolSS a66.2 1).bind fun a86 => (if a86 < 0 then some false else (if a86 ≠ a66.1 then some false else some true)))))))))))

end Go.Proofs.Ytjjlkncefgfljaa
