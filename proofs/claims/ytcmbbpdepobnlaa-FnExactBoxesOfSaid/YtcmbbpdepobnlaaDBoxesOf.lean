/- Plain functions that the program's functions come to: FnExactBoxesOf. -/
import Derived.Test.YtcmbbpdepobnlaaTy
namespace Go.Proofs.Ytcmbbpdepobnlaa
open Go Go.RowKit E
set_option linter.unusedVariables false
noncomputable def laws_szEdgeS (p0 : (List TEdge)) (p1 : Int) : Int := (if ((W (p1 - ((p0.length : Int))))) < 0 then (-1) else (W (p1 - ((p0.length : Int)))))

noncomputable def laws_szAuto (p0 : TAuto) (p1 : Int) : Int := (if ((laws_szEdgeS p0.edges p1)) < 0 then (-1) else (laws_szEdgeS p0.edges p1))

noncomputable def laws_toEdge (p0 : TEdge) : TEdge := p0

noncomputable def laws_toEdgeS.k0 (y4 : (List TEdge)) : Option (List TEdge) := some y4
noncomputable def laws_toEdgeS.b0 (p0 : (List TEdge)) (y6 : (List TEdge)) (x4_l0 : Int) : Option (((List TEdge) × Int) ⊕ (List TEdge)) := (if x4_l0 < ((p0.length : Int)) then (ix p0 x4_l0).bind fun a18 => (ck x4_l0 y6.length).bind fun m21 => some (.inl (((y6.set m21 ((laws_toEdge a18))), (W (x4_l0 + 1))))) else some (.inr y6))
noncomputable def laws_toEdgeS (p0 : (List TEdge)) : Option (List TEdge) := (mk 32 (TEdge.mk (0 : Int) (0 : Int) (0 : Int) false) ((p0.length : Int))).bind fun z7 => (loop (fun s : ((List TEdge) × Int) => laws_toEdgeS.b0 p0 s.1 s.2) ((z7, 0))).bind (fun q => laws_toEdgeS.k0 q)

noncomputable def laws_toAuto (p0 : TAuto) : Option TAuto := (laws_toEdgeS p0.edges).bind fun a15 => some ((TAuto.mk p0.letters p0.states p0.start a15))

noncomputable def spec_l1In (p0 : Int) (p1 : Int) (p2 : Int) : Bool := bnd ((decide (p0 ≥ p1))) fun c10 => (c10 && (decide (p0 ≤ p2)))

noncomputable def spec_SetOk (p0 : Int) : Bool := (spec_l1In p0 0 2147483647)

noncomputable def spec_SetIn (p0 : Int) (p1 : Int) : Bool := bnd ((spec_SetOk p0)) fun c7 => bnd ((c7 && (spec_SetOk p1))) fun c11 => (c11 && (decide (((bAnd .i64 p0 p1)) = p0)))

noncomputable def spec_l4State (p0 : Int) (p1 : Int) : Bool := (spec_l1In p0 0 ((W (p1 - 1))))

noncomputable def spec_l4Less (p0 : TEdge) (p1 : TEdge) : Bool := (if p0.from_ ≠ p1.from_ then (decide (p0.from_ < p1.from_)) else (if p0.letter ≠ p1.letter then (decide (p0.letter < p1.letter)) else (decide (p0.to_ < p1.to_))))

noncomputable def spec_AutoOk.k0 : Option Bool := some true
noncomputable def spec_AutoOk.b0 (p0 : TAuto) (x3_l0 : Int) : Option (Int ⊕ (Unit ⊕ Bool)) := (if x3_l0 < ((p0.edges.length : Int)) then (ix p0.edges x3_l0).bind fun a41 => bnd ((!(spec_l4State a41.from_ p0.states))) fun c49 => bnd ((c49 || (!(spec_l4State a41.to_ p0.states)))) fun c57 => bnd ((c57 || (!(spec_l1In a41.letter 0 ((W (p0.letters - 1))))))) fun c66 => bnd ((decide (x3_l0 > 0))) fun c69 => (whenO ((!c66) && c69) (ix p0.edges ((W (x3_l0 - 1))))).bind fun a74 => (if (c66 || (c69 && (!(spec_l4Less a74 a41)))) = true then some (.inr ((.inr false))) else some (.inl ((W (x3_l0 + 1))))) else some (.inr ((.inl (())))))
noncomputable def spec_AutoOk (p0 : TAuto) : Option Bool := bnd ((!(spec_l1In p0.letters 1 8))) fun c9 => bnd ((c9 || (!(spec_l1In p0.states 0 31)))) fun c15 => (whenO (!c15) (chk (decide (0 ≤ p0.states)))).bind fun u1 => bnd ((c15 || (!(spec_SetIn p0.start ((W (((shl .i64 1 p0.states)) - 1))))))) fun c25 => (if (c25 || (decide (((p0.edges.length : Int)) > 2000))) = true then some false else (loop (fun s : Int => spec_AutoOk.b0 p0 s) 0).bind (Sum.elim (fun q => spec_AutoOk.k0) (fun q => some q)))

noncomputable def spec_l14Right (p0 : TAuto) : Option Bool := (spec_AutoOk p0).bind fun a4 => some ((a4 && (spec_l1In p0.states 1 4)))

noncomputable def spec_BoxOne.k0 (y4 : (List Int)) : Option (List Int) := some y4
noncomputable def spec_BoxOne.b0 (p0 : Int) (y8 : (List Int)) (x4_l0 : Int) : Option (((List Int) × Int) ⊕ (List Int)) := bnd ((decide (x4_l0 < ((W (p0 * p0)))))) fun c11 => (if (c11 && (spec_l1In p0 1 4)) = true then (chk (decide (p0 ≠ 0))).bind fun u18 => (chk (decide (p0 ≠ 0))).bind fun u19 => (if ((quo .i64 x4_l0 p0)) = ((Int.tmod x4_l0 p0)) then (app 8 y8 ([1])).bind fun z26 => some (.inl ((z26, (W (x4_l0 + 1))))) else (app 8 y8 ([0])).bind fun z29 => some (.inl ((z29, (W (x4_l0 + 1)))))) else some (.inr y8))
noncomputable def spec_BoxOne (p0 : Int) : Option (List Int) := (loop (fun s : ((List Int) × Int) => spec_BoxOne.b0 p0 s.1 s.2) (([], 0))).bind (fun q => spec_BoxOne.k0 q)

noncomputable def spec_l14Letter.k0 (y4 : (List Int)) : Option (List Int) := some y4
noncomputable def spec_l14Letter.b0 (p0 : TAuto) (p1 : Int) (y6 : (List Int)) (x6_l0 : Int) : Option (((List Int) × Int) ⊕ (List Int)) := (if x6_l0 < ((p0.edges.length : Int)) then (ix p0.edges x6_l0).bind fun a24 => (if a24.letter = p1 then (ck ((W (((W (a24.from_ * p0.states))) + a24.to_))) y6.length).bind fun m39 => (if a24.good = true then (ck ((W (((W (a24.from_ * p0.states))) + a24.to_))) ((y6.set m39 1)).length).bind fun m51 => some (.inl (((((y6.set m39 1)).set m51 2), (W (x6_l0 + 1))))) else some (.inl (((y6.set m39 1), (W (x6_l0 + 1)))))) else some (.inl ((y6, (W (x6_l0 + 1)))))) else some (.inr y6))
noncomputable def spec_l14Letter (p0 : TAuto) (p1 : Int) : Option (List Int) := (mk 8 (0 : Int) ((W (p0.states * p0.states)))).bind fun z13 => (loop (fun s : ((List Int) × Int) => spec_l14Letter.b0 p0 p1 s.1 s.2) ((z13, 0))).bind (fun q => spec_l14Letter.k0 q)

noncomputable def spec_l1Max (p0 : Int) (p1 : Int) : Int := (if p0 > p1 then p0 else p1)

noncomputable def spec_l14Mul.k0 (y4 : (List Int)) : Option (List Int) := some y4
noncomputable def spec_l14Mul.k1 (x8_l0 : Int) (y14 : (List Int)) : Option (((List Int) × Int) ⊕ (List Int)) := some (.inl ((y14, (W (x8_l0 + 1)))))
noncomputable def spec_l14Mul.k2 (x9_l1 : Int) (y24 : (List Int)) : Option (((List Int) × Int) ⊕ (List Int)) := some (.inl ((y24, (W (x9_l1 + 1)))))
noncomputable def spec_l14Mul.b2 (p0 : Int) (p1 : (List Int)) (x8_l0 : Int) (p2 : (List Int)) (x9_l1 : Int) (y26 : (List Int)) (x10_l2 : Int) : Option (((List Int) × Int) ⊕ (List Int)) := (if x10_l2 < p0 then (ix p1 ((W (((W (x8_l0 * p0))) + x10_l2)))).bind fun a36 => bnd ((decide (a36 > 0))) fun c39 => (whenO c39 (ix p2 ((W (((W (x10_l2 * p0))) + x9_l1))))).bind fun a46 => (if (c39 && (decide (a46 > 0))) = true then (ix y26 ((W (((W (x8_l0 * p0))) + x9_l1)))).bind fun a62 => (ix p1 ((W (((W (x8_l0 * p0))) + x10_l2)))).bind fun a70 => (ix p2 ((W (((W (x10_l2 * p0))) + x9_l1)))).bind fun a78 => (ck ((W (((W (x8_l0 * p0))) + x9_l1))) y26.length).bind fun m82 => some (.inl (((y26.set m82 ((spec_l1Max a62 ((spec_l1Max a70 a78))))), (W (x10_l2 + 1))))) else some (.inl ((y26, (W (x10_l2 + 1)))))) else some (.inr y26))
noncomputable def spec_l14Mul.b1 (p0 : Int) (p1 : (List Int)) (x8_l0 : Int) (p2 : (List Int)) (y16 : (List Int)) (x9_l1 : Int) : Option (((List Int) × Int) ⊕ (List Int)) := (if x9_l1 < p0 then (loop (fun s : ((List Int) × Int) => spec_l14Mul.b2 p0 p1 x8_l0 p2 x9_l1 s.1 s.2) ((y16, 0))).bind (fun q => spec_l14Mul.k2 x9_l1 q) else some (.inr y16))
noncomputable def spec_l14Mul.b0 (p0 : Int) (p1 : (List Int)) (p2 : (List Int)) (y6 : (List Int)) (x8_l0 : Int) : Option (((List Int) × Int) ⊕ (List Int)) := (if x8_l0 < p0 then (loop (fun s : ((List Int) × Int) => spec_l14Mul.b1 p0 p1 x8_l0 p2 s.1 s.2) ((y6, 0))).bind (fun q => spec_l14Mul.k1 x8_l0 q) else some (.inr y6))
noncomputable def spec_l14Mul (p0 : Int) (p1 : (List Int)) (p2 : (List Int)) : Option (List Int) := (mk 8 (0 : Int) ((W (p0 * p0)))).bind fun z14 => (loop (fun s : ((List Int) × Int) => spec_l14Mul.b0 p0 p1 p2 s.1 s.2) ((z14, 0))).bind (fun q => spec_l14Mul.k0 q)

noncomputable def spec_l3Same.k0 : Option Bool := some true
noncomputable def spec_l3Same.b0 (p0 : (List Int)) (p1 : (List Int)) (x5_l0 : Int) : Option (Int ⊕ (Unit ⊕ Bool)) := (if x5_l0 < ((p0.length : Int)) then (ix p0 x5_l0).bind fun a19 => (ix p1 x5_l0).bind fun a23 => (if a19 ≠ a23 then some (.inr ((.inr false))) else some (.inl ((W (x5_l0 + 1))))) else some (.inr ((.inl (())))))
noncomputable def spec_l3Same (p0 : (List Int)) (p1 : (List Int)) : Option Bool := (if ((p0.length : Int)) ≠ ((p1.length : Int)) then some false else (loop (fun s : Int => spec_l3Same.b0 p0 p1 s) 0).bind (Sum.elim (fun q => spec_l3Same.k0) (fun q => some q)))

noncomputable def spec_l14Find.k0 : Option Int := some ((-1))
noncomputable def spec_l14Find.b0 (p0 : (List TBoxed)) (p1 : (List Int)) (x5_l0 : Int) : Option (Int ⊕ (Unit ⊕ Int)) := (if x5_l0 < ((p0.length : Int)) then (ix p0 x5_l0).bind fun a14 => (spec_l3Same a14.box p1).bind fun a18 => (if a18 = true then some (.inr ((.inr x5_l0))) else some (.inl ((W (x5_l0 + 1))))) else some (.inr ((.inl (())))))
noncomputable def spec_l14Find (p0 : (List TBoxed)) (p1 : (List Int)) : Option Int := (loop (fun s : Int => spec_l14Find.b0 p0 p1 s) 0).bind (Sum.elim (fun q => spec_l14Find.k0) (fun q => some q))

noncomputable def spec_BoxesOf.k0 (y4 : (List TBoxed)) : Option ((List TBoxed) × Bool) := some ((y4, true))
noncomputable def spec_BoxesOf.k1 (x5_l0 : Int) (y19 : (List TBoxed)) : Option (((List TBoxed) × Int) ⊕ ((List TBoxed) ⊕ ((List TBoxed) × Bool))) := some (.inl ((y19, (W (x5_l0 + 1)))))
noncomputable def spec_BoxesOf.b1 (p0 : TAuto) (x5_l0 : Int) (y23 : (List TBoxed)) (x6_l1 : Int) : Option (((List TBoxed) × Int) ⊕ ((List TBoxed) ⊕ ((List TBoxed) × Bool))) := (if x6_l1 < p0.letters then (ix y23 x5_l0).bind fun a34 => (spec_l14Letter p0 x6_l1).bind fun a39 => (spec_l14Mul p0.states a34.box a39).bind fun a40 => (spec_l14Find y23 a40).bind fun a43 => (if a43 ≥ 0 then some (.inl ((y23, (W (x6_l1 + 1))))) else bnd ((decide (((y23.length : Int)) = 150))) fun c48 => (whenO (!c48) (ix y23 x5_l0)).bind fun a51 => (if (c48 || (decide (((a51.word.length : Int)) = 40))) = true then some (.inr ((.inr (([], false))))) else (ix y23 x5_l0).bind fun a62 => (app 8 ([]) a62.word).bind fun z65 => (app 8 z65 ([x6_l1])).bind fun z68 => (app 48 y23 ([(TBoxed.mk z68 a40)])).bind fun z72 => some (.inl ((z72, (W (x6_l1 + 1))))))) else some (.inr ((.inl y23))))
noncomputable def spec_BoxesOf.b0 (p0 : TAuto) (y9 : (List TBoxed)) (x5_l0 : Int) : Option (((List TBoxed) × Int) ⊕ ((List TBoxed) ⊕ ((List TBoxed) × Bool))) := (if x5_l0 < ((y9.length : Int)) then (loop (fun s : ((List TBoxed) × Int) => spec_BoxesOf.b1 p0 x5_l0 s.1 s.2) ((y9, 0))).bind (Sum.elim (fun q => spec_BoxesOf.k1 x5_l0 q) (fun q => some (.inr ((.inr q))))) else some (.inr ((.inl y9))))
noncomputable def spec_BoxesOf (p0 : TAuto) : Option ((List TBoxed) × Bool) := (spec_l14Right p0).bind fun a9 => (if (!a9) = true then some (([], false)) else (spec_BoxOne p0.states).bind fun a15 => (loop (fun s : ((List TBoxed) × Int) => spec_BoxesOf.b0 p0 s.1 s.2) (([(TBoxed.mk ([]) a15)], 0))).bind (Sum.elim (fun q => spec_BoxesOf.k0 q) (fun q => some q)))

noncomputable def impl_inRange (p0 : Int) (p1 : Int) (p2 : Int) : Bool := bnd ((decide (p0 ≥ p1))) fun c10 => (c10 && (decide (p0 ≤ p2)))

noncomputable def impl_isBoxed (p0 : Int) : Bool := (impl_inRange p0 1 4)

noncomputable def impl_isLetters (p0 : Int) : Bool := (impl_inRange p0 1 8)

noncomputable def impl_SetOk (p0 : Int) : Bool := (impl_inRange p0 0 2147483647)

noncomputable def impl_only (p0 : Int) : Int := (shl .i64 1 ((IntKind.u64.wrap p0)))

noncomputable def impl_headOk (p0 : Int) (p1 : Int) (p2 : Int) : Bool := bnd ((impl_isLetters p0)) fun c9 => bnd ((c9 && (impl_inRange p1 0 31))) fun c13 => bnd ((c13 && (impl_SetOk p2))) fun c17 => (c17 && (decide (p2 < ((impl_only p1)))))

noncomputable def cmp_isNaN_int (p0 : Int) : Bool := (decide (p0 ≠ p0))

noncomputable def cmp_Compare_int (p0 : Int) (p1 : Int) : Int := (if (cmp_isNaN_int p0) = true then (if (cmp_isNaN_int p1) = true then 0 else (-1)) else (if (cmp_isNaN_int p1) = true then 1 else (if p0 < p1 then (-1) else (if p0 > p1 then 1 else 0))))

noncomputable def cmp_Or_int.k0 : Option Int := some 0
noncomputable def cmp_Or_int.b0 (p0 : (List Int)) (x8_l0 : Int) : Option (Int ⊕ (Unit ⊕ Int)) := (if x8_l0 < ((p0.length : Int)) then (ix p0 x8_l0).bind fun a10 => (if a10 ≠ 0 then some (.inr ((.inr a10))) else some (.inl ((W (x8_l0 + 1))))) else some (.inr ((.inl (())))))
noncomputable def cmp_Or_int (p0 : (List Int)) : Option Int := (loop (fun s : Int => cmp_Or_int.b0 p0 s) 0).bind (Sum.elim (fun q => cmp_Or_int.k0) (fun q => some q))

noncomputable def impl_compareEdges (p0 : TEdge) (p1 : TEdge) : Option Int := (cmp_Or_int ([(cmp_Compare_int p0.from_ p1.from_), (cmp_Compare_int p0.letter p1.letter), (cmp_Compare_int p0.to_ p1.to_)])).bind fun a21 => some a21

noncomputable def impl_AutoOk.k0 : Option Bool := some true
noncomputable def impl_AutoOk.b0 (p0 : TAuto) (x22_l0 : Int) : Option (Int ⊕ (Unit ⊕ Bool)) := (if x22_l0 < ((p0.edges.length : Int)) then (ix p0.edges x22_l0).bind fun a25 => bnd ((!(impl_inRange a25.from_ 0 ((W (p0.states - 1)))))) fun c34 => bnd ((c34 || (!(impl_inRange a25.to_ 0 ((W (p0.states - 1))))))) fun c43 => (if (c43 || (!(impl_inRange a25.letter 0 ((W (p0.letters - 1)))))) = true then some (.inr ((.inr false))) else bnd ((decide (x22_l0 > 0))) fun c54 => (whenO c54 (ix p0.edges ((W (x22_l0 - 1))))).bind fun a59 => (whenO c54 (impl_compareEdges a59 a25)).bind fun a62 => (if (c54 && (decide (a62 ≥ 0))) = true then some (.inr ((.inr false))) else some (.inl ((W (x22_l0 + 1)))))) else some (.inr ((.inl (())))))
noncomputable def impl_AutoOk (p0 : TAuto) : Option Bool := bnd ((!(impl_headOk p0.letters p0.states p0.start))) fun c13 => (if (c13 || (decide (((p0.edges.length : Int)) > 2000))) = true then some false else (loop (fun s : Int => impl_AutoOk.b0 p0 s) 0).bind (Sum.elim (fun q => impl_AutoOk.k0) (fun q => some q)))

noncomputable def impl_boxOne.k0 (y4 : (List Int)) : Option (List Int) := some y4
noncomputable def impl_boxOne.b0 (p0 : Int) (y6 : (List Int)) (x10_l0 : Int) : Option (((List Int) × Int) ⊕ (List Int)) := (if x10_l0 < p0 then (ck ((W (((W (x10_l0 * p0))) + x10_l0))) y6.length).bind fun m19 => some (.inl (((y6.set m19 1), (W (x10_l0 + 1))))) else some (.inr y6))
noncomputable def impl_boxOne (p0 : Int) : Option (List Int) := (mk 8 (0 : Int) ((W (p0 * p0)))).bind fun z8 => (loop (fun s : ((List Int) × Int) => impl_boxOne.b0 p0 s.1 s.2) ((z8, 0))).bind (fun q => impl_boxOne.k0 q)

noncomputable def slices_Equal_int_int.k0 : Option Bool := some true
noncomputable def slices_Equal_int_int.b0 (p0 : (List Int)) (p1 : (List Int)) (x13_l0 : Int) : Option (Int ⊕ (Unit ⊕ Bool)) := (if x13_l0 < ((p0.length : Int)) then (ix p0 x13_l0).bind fun a18 => (ix p1 x13_l0).bind fun a22 => (if a18 ≠ a22 then some (.inr ((.inr false))) else some (.inl ((W (x13_l0 + 1))))) else some (.inr ((.inl (())))))
noncomputable def slices_Equal_int_int (p0 : (List Int)) (p1 : (List Int)) : Option Bool := (if ((p0.length : Int)) ≠ ((p1.length : Int)) then some false else (loop (fun s : Int => slices_Equal_int_int.b0 p0 p1 s) 0).bind (Sum.elim (fun q => slices_Equal_int_int.k0) (fun q => some q)))

noncomputable def impl_twins_1_1 (p0 : Ttwin) (p1 : Ttwin) : Option Bool := (slices_Equal_int_int p1.a p0.a).bind fun a8 => (whenO a8 (slices_Equal_int_int p1.b p0.b)).bind fun a14 => some ((a8 && a14))

noncomputable def slices_IndexFunc_impl_twin_impl_twin.k0 : Option Int := some ((-1))
noncomputable def slices_IndexFunc_impl_twin_impl_twin.b0 (p0 : (List Ttwin)) (g1 : (Ttwin → Option Bool)) (x8_l0 : Int) : Option (Int ⊕ (Unit ⊕ Int)) := (if x8_l0 < ((p0.length : Int)) then (ix p0 x8_l0).bind fun a14 => (g1 a14).bind fun a16 => (if a16 = true then some (.inr ((.inr x8_l0))) else some (.inl ((W (x8_l0 + 1))))) else some (.inr ((.inl (())))))
noncomputable def slices_IndexFunc_impl_twin_impl_twin (p0 : (List Ttwin)) (g1 : (Ttwin → Option Bool)) : Option Int := (loop (fun s : Int => slices_IndexFunc_impl_twin_impl_twin.b0 p0 g1 s) 0).bind (Sum.elim (fun q => slices_IndexFunc_impl_twin_impl_twin.k0) (fun q => some q))

noncomputable def slices_ContainsFunc_impl_twin_impl_twin (p0 : (List Ttwin)) (g1 : (Ttwin → Option Bool)) : Option Bool := (slices_IndexFunc_impl_twin_impl_twin p0 g1).bind fun a7 => some ((decide (a7 ≥ 0)))

noncomputable def impl_twins_1 (p0 : Ttwin) (p1 : (List Ttwin)) : Option Bool := (slices_ContainsFunc_impl_twin_impl_twin p1 ((fun q0 => impl_twins_1_1 q0 p0))).bind fun a6 => some a6

noncomputable def impl_boxLetter.k0 (y4 : (List Int)) : Option (List Int) := some y4
noncomputable def impl_boxLetter.b0 (p0 : TAuto) (p1 : Int) (y6 : (List Int)) (x17_l0 : Int) : Option (((List Int) × Int) ⊕ (List Int)) := (if x17_l0 < ((p0.edges.length : Int)) then (ix p0.edges x17_l0).bind fun a19 => (if a19.letter ≠ p1 then some (.inl ((y6, (W (x17_l0 + 1))))) else (ck ((W (((W (a19.from_ * p0.states))) + a19.to_))) y6.length).bind fun m34 => (if a19.good = true then (ck ((W (((W (a19.from_ * p0.states))) + a19.to_))) ((y6.set m34 1)).length).bind fun m46 => some (.inl (((((y6.set m34 1)).set m46 2), (W (x17_l0 + 1))))) else some (.inl (((y6.set m34 1), (W (x17_l0 + 1))))))) else some (.inr y6))
noncomputable def impl_boxLetter (p0 : TAuto) (p1 : Int) : Option (List Int) := (mk 8 (0 : Int) ((W (p0.states * p0.states)))).bind fun z13 => (loop (fun s : ((List Int) × Int) => impl_boxLetter.b0 p0 p1 s.1 s.2) ((z13, 0))).bind (fun q => impl_boxLetter.k0 q)

noncomputable def impl_boxMul.k0 (y4 : (List Int)) : Option (List Int) := some y4
noncomputable def impl_boxMul.k1 (x16_l0 : Int) (y14 : (List Int)) : Option (((List Int) × Int) ⊕ (List Int)) := some (.inl ((y14, (W (x16_l0 + 1)))))
noncomputable def impl_boxMul.k2 (x20_l1 : Int) (y24 : (List Int)) : Option (((List Int) × Int) ⊕ (List Int)) := some (.inl ((y24, (W (x20_l1 + 1)))))
noncomputable def impl_boxMul.b2 (p0 : Int) (p2 : (List Int)) (x20_l1 : Int) (x16_l0 : Int) (p1 : (List Int)) (y27 : (List Int)) (x33_l2 : Int) : Option (((List Int) × Int) ⊕ (List Int)) := (if x33_l2 < p0 then (ix p2 ((W (((W (x20_l1 * p0))) + x33_l2)))).bind fun a42 => (if a42 ≠ 0 then (ix y27 ((W (((W (x16_l0 * p0))) + x33_l2)))).bind fun a57 => (ix p1 ((W (((W (x16_l0 * p0))) + x20_l1)))).bind fun a65 => (ix p2 ((W (((W (x20_l1 * p0))) + x33_l2)))).bind fun a73 => (ck ((W (((W (x16_l0 * p0))) + x33_l2))) y27.length).bind fun m76 => some (.inl (((y27.set m76 ((mx ((mx a57 a65)) a73))), (W (x33_l2 + 1))))) else some (.inl ((y27, (W (x33_l2 + 1)))))) else some (.inr y27))
noncomputable def impl_boxMul.b1 (p0 : Int) (p1 : (List Int)) (x16_l0 : Int) (p2 : (List Int)) (y16 : (List Int)) (x20_l1 : Int) : Option (((List Int) × Int) ⊕ (List Int)) := (if x20_l1 < p0 then (ix p1 ((W (((W (x16_l0 * p0))) + x20_l1)))).bind fun a29 => (if a29 = 0 then impl_boxMul.k2 x20_l1 y16 else (loop (fun s : ((List Int) × Int) => impl_boxMul.b2 p0 p2 x20_l1 x16_l0 p1 s.1 s.2) ((y16, 0))).bind (fun q => impl_boxMul.k2 x20_l1 q)) else some (.inr y16))
noncomputable def impl_boxMul.b0 (p0 : Int) (p1 : (List Int)) (p2 : (List Int)) (y6 : (List Int)) (x16_l0 : Int) : Option (((List Int) × Int) ⊕ (List Int)) := (if x16_l0 < p0 then (loop (fun s : ((List Int) × Int) => impl_boxMul.b1 p0 p1 x16_l0 p2 s.1 s.2) ((y6, 0))).bind (fun q => impl_boxMul.k1 x16_l0 q) else some (.inr y6))
noncomputable def impl_boxMul (p0 : Int) (p1 : (List Int)) (p2 : (List Int)) : Option (List Int) := (mk 8 (0 : Int) ((W (p0 * p0)))).bind fun z14 => (loop (fun s : ((List Int) × Int) => impl_boxMul.b0 p0 p1 p2 s.1 s.2) ((z14, 0))).bind (fun q => impl_boxMul.k0 q)

noncomputable def slices_Clone_int_int (p0 : (List Int)) : Option (List Int) := (if p0 = [] then some ([]) else (app 8 ([]) p0).bind fun z7 => some z7)

noncomputable def impl_twins.k0 (y2402 : (List Ttwin)) : Option ((List Ttwin) × Bool) := some ((y2402, true))
noncomputable def impl_twins.k1 (x8_l0 : Int) (y2417 : (List Ttwin)) : Option (((List Ttwin) × Int) ⊕ ((List Ttwin) ⊕ ((List Ttwin) × Bool))) := some (.inl ((y2417, (W (x8_l0 + 1)))))
noncomputable def impl_twins.b1 (p0 : TAuto) (x8_l0 : Int) (p1 : TAuto) (y2421 : (List Ttwin)) (x29_l1 : Int) : Option (((List Ttwin) × Int) ⊕ ((List Ttwin) ⊕ ((List Ttwin) × Bool))) := (if x29_l1 < p0.letters then (ix y2421 x8_l0).bind fun a34 => (impl_boxLetter p0 x29_l1).bind fun a42 => (impl_boxMul p0.states a34.a a42).bind fun a43 => (impl_boxLetter p1 x29_l1).bind fun a50 => (impl_boxMul p1.states a34.b a50).bind fun a51 => (impl_twins_1 ((Ttwin.mk ([]) a43 a51)) y2421).bind fun a55 => (if a55 = true then some (.inl ((y2421, (W (x29_l1 + 1))))) else (slices_Clone_int_int a34.word).bind fun a58 => (app 8 a58 ([x29_l1])).bind fun z61 => bnd ((decide (((y2421.length : Int)) = 150))) fun c66 => (if (c66 || (decide (((z61.length : Int)) > 40))) = true then some (.inr ((.inr (([], false))))) else (app 72 y2421 ([(Ttwin.mk z61 a43 a51)])).bind fun z75 => some (.inl ((z75, (W (x29_l1 + 1))))))) else some (.inr ((.inl y2421))))
noncomputable def impl_twins.b0 (p0 : TAuto) (p1 : TAuto) (y2407 : (List Ttwin)) (x8_l0 : Int) : Option (((List Ttwin) × Int) ⊕ ((List Ttwin) ⊕ ((List Ttwin) × Bool))) := (if x8_l0 < ((y2407.length : Int)) then (loop (fun s : ((List Ttwin) × Int) => impl_twins.b1 p0 x8_l0 p1 s.1 s.2) ((y2407, 0))).bind (Sum.elim (fun q => impl_twins.k1 x8_l0 q) (fun q => some (.inr ((.inr q))))) else some (.inr ((.inl y2407))))
noncomputable def impl_twins (p0 : TAuto) (p1 : TAuto) : Option ((List Ttwin) × Bool) := (impl_boxOne p0.states).bind fun a14 => (impl_boxOne p1.states).bind fun a17 => (loop (fun s : ((List Ttwin) × Int) => impl_twins.b0 p0 p1 s.1 s.2) (([(Ttwin.mk ([]) a14 a17)], 0))).bind (Sum.elim (fun q => impl_twins.k0 q) (fun q => some q))

noncomputable def impl_BoxesOf.k0 (y4 : (List TBoxed)) : Option ((List TBoxed) × Bool) := some ((y4, true))
noncomputable def impl_BoxesOf.b0 (a21 : ((List Ttwin) × Bool)) (y9 : (List TBoxed)) (x28_l0 : Int) : Option (((List TBoxed) × Int) ⊕ (List TBoxed)) := (if x28_l0 < ((a21.1.length : Int)) then (ix a21.1 x28_l0).bind fun a30 => (app 48 y9 ([(TBoxed.mk a30.word a30.a)])).bind fun z39 => some (.inl ((z39, (W (x28_l0 + 1))))) else some (.inr y9))
noncomputable def impl_BoxesOf (p0 : TAuto) : Option ((List TBoxed) × Bool) := bnd ((!(impl_isBoxed p0.states))) fun c13 => (whenO (!c13) (impl_AutoOk p0)).bind fun a15 => (if (c13 || (!a15)) = true then some (([], false)) else (impl_twins p0 p0).bind fun a21 => (if (!a21.2) = true then some (([], false)) else (loop (fun s : ((List TBoxed) × Int) => impl_BoxesOf.b0 a21 s.1 s.2) (([], 0))).bind (fun q => impl_BoxesOf.k0 q)))

noncomputable def laws_eqIntS.k0 : Option Bool := some true
noncomputable def laws_eqIntS.b0 (p0 : (List Int)) (p1 : (List Int)) (x5_l0 : Int) : Option (Int ⊕ (Unit ⊕ Bool)) := (if x5_l0 < ((p0.length : Int)) then (ix p0 x5_l0).bind fun a19 => (ix p1 x5_l0).bind fun a23 => (if a19 ≠ a23 then some (.inr ((.inr false))) else some (.inl ((W (x5_l0 + 1))))) else some (.inr ((.inl (())))))
noncomputable def laws_eqIntS (p0 : (List Int)) (p1 : (List Int)) : Option Bool := (if ((p0.length : Int)) ≠ ((p1.length : Int)) then some false else (loop (fun s : Int => laws_eqIntS.b0 p0 p1 s) 0).bind (Sum.elim (fun q => laws_eqIntS.k0) (fun q => some q)))

noncomputable def laws_eqBoxed (p0 : TBoxed) (p1 : TBoxed) : Option Bool := (laws_eqIntS p0.word p1.word).bind fun a9 => (if (!a9) = true then some false else (laws_eqIntS p0.box p1.box).bind fun a15 => (if (!a15) = true then some false else some true))

noncomputable def laws_eqBoxedS.k0 : Option Bool := some true
noncomputable def laws_eqBoxedS.b0 (p0 : (List TBoxed)) (p1 : (List TBoxed)) (x5_l0 : Int) : Option (Int ⊕ (Unit ⊕ Bool)) := (if x5_l0 < ((p0.length : Int)) then (ix p0 x5_l0).bind fun a19 => (ix p1 x5_l0).bind fun a23 => (laws_eqBoxed a19 a23).bind fun a25 => (if (!a25) = true then some (.inr ((.inr false))) else some (.inl ((W (x5_l0 + 1))))) else some (.inr ((.inl (())))))
noncomputable def laws_eqBoxedS (p0 : (List TBoxed)) (p1 : (List TBoxed)) : Option Bool := (if ((p0.length : Int)) ≠ ((p1.length : Int)) then some false else (loop (fun s : Int => laws_eqBoxedS.b0 p0 p1 s) 0).bind (Sum.elim (fun q => laws_eqBoxedS.k0) (fun q => some q)))

noncomputable def laws_eqEdge (p0 : TEdge) (p1 : TEdge) : Bool := (if p0.from_ ≠ p1.from_ then false else (if p0.letter ≠ p1.letter then false else (if p0.to_ ≠ p1.to_ then false else (if (!(p0.good == p1.good)) = true then false else true))))

noncomputable def laws_eqEdgeS.k0 : Option Bool := some true
noncomputable def laws_eqEdgeS.b0 (p0 : (List TEdge)) (p1 : (List TEdge)) (x5_l0 : Int) : Option (Int ⊕ (Unit ⊕ Bool)) := (if x5_l0 < ((p0.length : Int)) then (ix p0 x5_l0).bind fun a19 => (ix p1 x5_l0).bind fun a23 => (if (!(laws_eqEdge a19 a23)) = true then some (.inr ((.inr false))) else some (.inl ((W (x5_l0 + 1))))) else some (.inr ((.inl (())))))
noncomputable def laws_eqEdgeS (p0 : (List TEdge)) (p1 : (List TEdge)) : Option Bool := (if ((p0.length : Int)) ≠ ((p1.length : Int)) then some false else (loop (fun s : Int => laws_eqEdgeS.b0 p0 p1 s) 0).bind (Sum.elim (fun q => laws_eqEdgeS.k0) (fun q => some q)))

noncomputable def laws_eqAuto (p0 : TAuto) (p1 : TAuto) : Option Bool := (if p0.letters ≠ p1.letters then some false else (if p0.states ≠ p1.states then some false else (if p0.start ≠ p1.start then some false else (laws_eqEdgeS p0.edges p1.edges).bind fun a24 => (if (!a24) = true then some false else some true))))

noncomputable def laws_markEdgeS.k0 (x1_1 : Int) (y2 : (List TEdge)) : Option (Int × (List TEdge)) := some ((x1_1, y2))
noncomputable def laws_markEdgeS.b0 (y4 : (List TEdge)) (x1_l0 : Int) (x5_l0 : Int) : Option (((List TEdge) × Int × Int) ⊕ (Int × (List TEdge))) := (if x5_l0 < ((y4.length : Int)) then (ck x5_l0 y4.length).bind fun m15 => (ck x5_l0 ((y4.set m15 ((fun q : TEdge => { q with from_ := x1_l0 }) (y4.getD m15 default)))).length).bind fun m22 => (ck x5_l0 ((((y4.set m15 ((fun q : TEdge => { q with from_ := x1_l0 }) (y4.getD m15 default)))).set m22 ((fun q : TEdge => { q with letter := (W (x1_l0 + 1)) }) (((y4.set m15 ((fun q : TEdge => { q with from_ := x1_l0 }) (y4.getD m15 default)))).getD m22 default)))).length).bind fun m29 => (ck x5_l0 ((((((y4.set m15 ((fun q : TEdge => { q with from_ := x1_l0 }) (y4.getD m15 default)))).set m22 ((fun q : TEdge => { q with letter := (W (x1_l0 + 1)) }) (((y4.set m15 ((fun q : TEdge => { q with from_ := x1_l0 }) (y4.getD m15 default)))).getD m22 default)))).set m29 ((fun q : TEdge => { q with to_ := (W (((W (x1_l0 + 1))) + 1)) }) (((((y4.set m15 ((fun q : TEdge => { q with from_ := x1_l0 }) (y4.getD m15 default)))).set m22 ((fun q : TEdge => { q with letter := (W (x1_l0 + 1)) }) (((y4.set m15 ((fun q : TEdge => { q with from_ := x1_l0 }) (y4.getD m15 default)))).getD m22 default)))).getD m29 default)))).length).bind fun m38 => some (.inl (((((((((y4.set m15 ((fun q : TEdge => { q with from_ := x1_l0 }) (y4.getD m15 default)))).set m22 ((fun q : TEdge => { q with letter := (W (x1_l0 + 1)) }) (((y4.set m15 ((fun q : TEdge => { q with from_ := x1_l0 }) (y4.getD m15 default)))).getD m22 default)))).set m29 ((fun q : TEdge => { q with to_ := (W (((W (x1_l0 + 1))) + 1)) }) (((((y4.set m15 ((fun q : TEdge => { q with from_ := x1_l0 }) (y4.getD m15 default)))).set m22 ((fun q : TEdge => { q with letter := (W (x1_l0 + 1)) }) (((y4.set m15 ((fun q : TEdge => { q with from_ := x1_l0 }) (y4.getD m15 default)))).getD m22 default)))).getD m29 default)))).set m38 ((fun q : TEdge => { q with good := (decide (((Int.tmod ((W (((W (((W (x1_l0 + 1))) + 1))) + 1))) 3)) = 0)) }) (((((((y4.set m15 ((fun q : TEdge => { q with from_ := x1_l0 }) (y4.getD m15 default)))).set m22 ((fun q : TEdge => { q with letter := (W (x1_l0 + 1)) }) (((y4.set m15 ((fun q : TEdge => { q with from_ := x1_l0 }) (y4.getD m15 default)))).getD m22 default)))).set m29 ((fun q : TEdge => { q with to_ := (W (((W (x1_l0 + 1))) + 1)) }) (((((y4.set m15 ((fun q : TEdge => { q with from_ := x1_l0 }) (y4.getD m15 default)))).set m22 ((fun q : TEdge => { q with letter := (W (x1_l0 + 1)) }) (((y4.set m15 ((fun q : TEdge => { q with from_ := x1_l0 }) (y4.getD m15 default)))).getD m22 default)))).getD m29 default)))).getD m38 default))), (W (((W (((W (((W (x1_l0 + 1))) + 1))) + 1))) + 1)), (W (x5_l0 + 1))))) else some (.inr ((x1_l0, y4))))
noncomputable def laws_markEdgeS (p0 : (List TEdge)) (p1 : Int) : Option (Int × (List TEdge)) := (loop (fun s : ((List TEdge) × Int × Int) => laws_markEdgeS.b0 s.1 s.2.1 s.2.2) ((p0, p1, 0))).bind (fun q => laws_markEdgeS.k0 q.1 q.2)

noncomputable def laws_markAuto (p0 : TAuto) (p1 : Int) : Option (Int × TAuto) := (laws_markEdgeS p0.edges p1).bind fun a8 => some ((a8.1, (TAuto.mk p0.letters p0.states p0.start a8.2)))

noncomputable def laws_markIntS.k0 (x1_1 : Int) (y2 : (List Int)) : Option (Int × (List Int)) := some ((x1_1, y2))
noncomputable def laws_markIntS.b0 (y4 : (List Int)) (x1_l0 : Int) (x5_l0 : Int) : Option (((List Int) × Int × Int) ⊕ (Int × (List Int))) := (if x5_l0 < ((y4.length : Int)) then (ck x5_l0 y4.length).bind fun m15 => some (.inl (((y4.set m15 x1_l0), (W (x1_l0 + 1)), (W (x5_l0 + 1))))) else some (.inr ((x1_l0, y4))))
noncomputable def laws_markIntS (p0 : (List Int)) (p1 : Int) : Option (Int × (List Int)) := (loop (fun s : ((List Int) × Int × Int) => laws_markIntS.b0 s.1 s.2.1 s.2.2) ((p0, p1, 0))).bind (fun q => laws_markIntS.k0 q.1 q.2)

noncomputable def laws_heldIntS.k0 (x1_1 : Int) : Option Int := some x1_1
noncomputable def laws_heldIntS.b0 (p0 : (List Int)) (x1_l0 : Int) (x5_l0 : Int) : Option ((Int × Int) ⊕ (Int ⊕ Int)) := (if x5_l0 < ((p0.length : Int)) then (ix p0 x5_l0).bind fun a14 => (if a14 ≠ x1_l0 then some (.inr ((.inr ((-1))))) else some (.inl (((W (x1_l0 + 1)), (W (x5_l0 + 1)))))) else some (.inr ((.inl x1_l0))))
noncomputable def laws_heldIntS (p0 : (List Int)) (p1 : Int) : Option Int := (loop (fun s : (Int × Int) => laws_heldIntS.b0 p0 s.1 s.2) ((p1, 0))).bind (Sum.elim (fun q => laws_heldIntS.k0 q) (fun q => some q))

noncomputable def laws_heldBoxedS.k0 (x1_1 : Int) : Option Int := some x1_1
noncomputable def laws_heldBoxedS.b0 (p0 : (List TBoxed)) (x1_l0 : Int) (x5_l0 : Int) : Option ((Int × Int) ⊕ (Int ⊕ Int)) := (if x5_l0 < ((p0.length : Int)) then (ix p0 x5_l0).bind fun a14 => (laws_heldIntS a14.word x1_l0).bind fun a18 => (if a18 < 0 then some (.inr ((.inr ((-1))))) else (ix p0 x5_l0).bind fun a23 => (laws_heldIntS a23.box a18).bind fun a27 => (if a27 < 0 then some (.inr ((.inr ((-1))))) else some (.inl ((a27, (W (x5_l0 + 1))))))) else some (.inr ((.inl x1_l0))))
noncomputable def laws_heldBoxedS (p0 : (List TBoxed)) (p1 : Int) : Option Int := (loop (fun s : (Int × Int) => laws_heldBoxedS.b0 p0 s.1 s.2) ((p1, 0))).bind (Sum.elim (fun q => laws_heldBoxedS.k0 q) (fun q => some q))


end Go.Proofs.Ytcmbbpdepobnlaa
