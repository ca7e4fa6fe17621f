/- Plain functions that the program's functions come to: FnExactRankStart. -/
import Derived.Test.YtllpbgcajgbfbaaTy
namespace Go.Proofs.Ytllpbgcajgbfbaa
open Go Go.RowKit E
set_option linter.unusedVariables false
noncomputable def laws_szEdgeS (p0 : (List TEdge)) (p1 : Int) : Int := (if ((W (p1 - ((p0.length : Int))))) < 0 then (-1) else (W (p1 - ((p0.length : Int)))))

noncomputable def laws_szAuto (p0 : TAuto) (p1 : Int) : Int := (if ((laws_szEdgeS p0.edges p1)) < 0 then (-1) else (laws_szEdgeS p0.edges p1))

noncomputable def laws_toEdge (p0 : TEdge) : TEdge := p0

noncomputable def laws_toEdgeS.k0 (y4 : (List TEdge)) : Option (List TEdge) := some y4
noncomputable def laws_toEdgeS.b0 (p0 : (List TEdge)) (y6 : (List TEdge)) (x4_l0 : Int) : Option (((List TEdge) × Int) ⊕ (List TEdge)) := (if x4_l0 < ((p0.length : Int)) then (ix p0 x4_l0).bind fun a18 => (ck x4_l0 y6.length).bind fun m21 => some (.inl (((y6.set m21 ((laws_toEdge a18))), (W (x4_l0 + 1))))) else some (.inr y6))
noncomputable def laws_toEdgeS (p0 : (List TEdge)) : Option (List TEdge) := (mk 32 (TEdge.mk (0 : Int) (0 : Int) (0 : Int) false) ((p0.length : Int))).bind fun z7 => (loop (fun s : ((List TEdge) × Int) => laws_toEdgeS.b0 p0 s.1 s.2) ((z7, 0))).bind (fun q => laws_toEdgeS.k0 q)

noncomputable def laws_toAuto (p0 : TAuto) : Option TAuto := (laws_toEdgeS p0.edges).bind fun a15 => some ((TAuto.mk p0.letters p0.states p0.start a15))

noncomputable def spec_l1In (p0 : Int) (p1 : Int) (p2 : Int) : Bool := bnd ((decide (p0 ≥ p1))) fun c10 => (c10 && (decide (p0 ≤ p2)))

noncomputable def spec_SetOk (p0 : Int) : Bool := (spec_l1In p0 0 2147483647)

noncomputable def spec_SetIn (p0 : Int) (p1 : Int) : Bool := bnd ((spec_SetOk p0)) fun c7 => bnd ((c7 && (spec_SetOk p1))) fun c11 => (c11 && (decide (((bAnd .i64 p0 p1)) = p0)))

noncomputable def spec_l4State (p0 : Int) (p1 : Int) : Bool := (spec_l1In p0 0 ((W (p1 - 1))))

noncomputable def spec_l4Less (p0 : TEdge) (p1 : TEdge) : Bool := (if p0.from_ ≠ p1.from_ then (decide (p0.from_ < p1.from_)) else (if p0.letter ≠ p1.letter then (decide (p0.letter < p1.letter)) else (decide (p0.to_ < p1.to_))))

noncomputable def spec_AutoOk.k0 : Option Bool := some true
noncomputable def spec_AutoOk.b0 (p0 : TAuto) (x3_l0 : Int) : Option (Int ⊕ (Unit ⊕ Bool)) := (if x3_l0 < ((p0.edges.length : Int)) then (ix p0.edges x3_l0).bind fun a41 => bnd ((!(spec_l4State a41.from_ p0.states))) fun c49 => bnd ((c49 || (!(spec_l4State a41.to_ p0.states)))) fun c57 => bnd ((c57 || (!(spec_l1In a41.letter 0 ((W (p0.letters - 1))))))) fun c66 => bnd ((decide (x3_l0 > 0))) fun c69 => (whenO ((!c66) && c69) (ix p0.edges ((W (x3_l0 - 1))))).bind fun a74 => (if (c66 || (c69 && (!(spec_l4Less a74 a41)))) = true then some (.inr ((.inr false))) else some (.inl ((W (x3_l0 + 1))))) else some (.inr ((.inl (())))))
noncomputable def spec_AutoOk (p0 : TAuto) : Option Bool := bnd ((!(spec_l1In p0.letters 1 8))) fun c9 => bnd ((c9 || (!(spec_l1In p0.states 0 31)))) fun c15 => (whenO (!c15) (chk (decide (0 ≤ p0.states)))).bind fun u1 => bnd ((c15 || (!(spec_SetIn p0.start ((W (((shl .i64 1 p0.states)) - 1))))))) fun c25 => (if (c25 || (decide (((p0.edges.length : Int)) > 2000))) = true then some false else (loop (fun s : Int => spec_AutoOk.b0 p0 s) 0).bind (Sum.elim (fun q => spec_AutoOk.k0) (fun q => some q)))

noncomputable def spec_l13States (p0 : TAuto) : Option Bool := (spec_AutoOk p0).bind fun a4 => some ((a4 && (decide (p0.states ≤ 2))))

noncomputable def spec_l1Bit (p0 : Int) : Option Int := (chk (decide (0 ≤ ((bAnd .i64 p0 31))))).bind fun u1 => some ((shl .i64 1 ((bAnd .i64 p0 31))))

noncomputable def spec_l1Has (p0 : Int) (p1 : Int) : Option Bool := bnd ((spec_l1In p1 0 30)) fun c7 => (whenO c7 (spec_l1Bit p1)).bind fun a10 => some ((c7 && (decide (((bAnd .i64 p0 a10)) ≠ 0))))

noncomputable def spec_RankStart.k0 (y12 : (List Int)) (y15 : Int) : Option (TRankState × Bool) := some (((TRankState.mk y12 y15), true))
noncomputable def spec_RankStart.k1 (y18 : (List Int)) (y21 : Int) (x5_l0 : Int) (x6_2 : Int) : Option (((List Int) × Int × Int) ⊕ ((List Int) × Int)) := (app 8 y18 ([x6_2])).bind fun z29 => some (.inl ((z29, y21, (W (x5_l0 + 1)))))
noncomputable def spec_RankStart.b0 (p0 : TAuto) (y18 : (List Int)) (y21 : Int) (x5_l0 : Int) : Option (((List Int) × Int × Int) ⊕ ((List Int) × Int)) := (if x5_l0 < p0.states then (spec_l1Has p0.start x5_l0).bind fun a21 => (if a21 = true then spec_RankStart.k1 y18 y21 x5_l0 ((W (2 * p0.states))) else spec_RankStart.k1 y18 y21 x5_l0 ((-1))) else some (.inr ((y18, y21))))
noncomputable def spec_RankStart (p0 : TAuto) : Option (TRankState × Bool) := (spec_l13States p0).bind fun a8 => (if (!a8) = true then some (((TRankState.mk ([]) 0), false)) else (loop (fun s : ((List Int) × Int × Int) => spec_RankStart.b0 p0 s.1 s.2.1 s.2.2) (([], 0, 0))).bind (fun q => spec_RankStart.k0 q.1 q.2))

noncomputable def impl_inRange (p0 : Int) (p1 : Int) (p2 : Int) : Bool := bnd ((decide (p0 ≥ p1))) fun c10 => (c10 && (decide (p0 ≤ p2)))

noncomputable def impl_isLetters (p0 : Int) : Bool := (impl_inRange p0 1 8)

noncomputable def impl_SetOk (p0 : Int) : Bool := (impl_inRange p0 0 2147483647)

noncomputable def impl_only (p0 : Int) : Int := (shl .i64 1 ((IntKind.u64.wrap p0)))

noncomputable def impl_headOk (p0 : Int) (p1 : Int) (p2 : Int) : Bool := bnd ((impl_isLetters p0)) fun c9 => bnd ((c9 && (impl_inRange p1 0 31))) fun c13 => bnd ((c13 && (impl_SetOk p2))) fun c17 => (c17 && (decide (p2 < ((impl_only p1)))))

noncomputable def cmp_isNaN_int (p0 : Int) : Bool := (decide (p0 ≠ p0))

noncomputable def cmp_Compare_int (p0 : Int) (p1 : Int) : Int := (if (cmp_isNaN_int p0) = true then (if (cmp_isNaN_int p1) = true then 0 else (-1)) else (if (cmp_isNaN_int p1) = true then 1 else (if p0 < p1 then (-1) else (if p0 > p1 then 1 else 0))))

noncomputable def cmp_Or_int.k0 : Option Int := some 0
noncomputable def cmp_Or_int.b0 (p0 : (List Int)) (x8_l0 : Int) : Option (Int ⊕ (Unit ⊕ Int)) := (if x8_l0 < ((p0.length : Int)) then (ix p0 x8_l0).bind fun a10 => (if a10 ≠ 0 then some (.inr ((.inr a10))) else some (.inl ((W (x8_l0 + 1))))) else some (.inr ((.inl (())))))
noncomputable def cmp_Or_int (p0 : (List Int)) : Option Int := (loop (fun s : Int => cmp_Or_int.b0 p0 s) 0).bind (Sum.elim (fun q => cmp_Or_int.k0) (fun q => some q))

noncomputable def impl_compareEdges (p0 : TEdge) (p1 : TEdge) : Option Int := (cmp_Or_int ([(cmp_Compare_int p0.from_ p1.from_), (cmp_Compare_int p0.letter p1.letter), (cmp_Compare_int p0.to_ p1.to_)])).bind fun a21 => some a21

noncomputable def impl_AutoOk.k0 : Option Bool := some true
noncomputable def impl_AutoOk.b0 (p0 : TAuto) (x22_l0 : Int) : Option (Int ⊕ (Unit ⊕ Bool)) := (if x22_l0 < ((p0.edges.length : Int)) then (ix p0.edges x22_l0).bind fun a25 => bnd ((!(impl_inRange a25.from_ 0 ((W (p0.states - 1)))))) fun c34 => bnd ((c34 || (!(impl_inRange a25.to_ 0 ((W (p0.states - 1))))))) fun c43 => (if (c43 || (!(impl_inRange a25.letter 0 ((W (p0.letters - 1)))))) = true then some (.inr ((.inr false))) else bnd ((decide (x22_l0 > 0))) fun c54 => (whenO c54 (ix p0.edges ((W (x22_l0 - 1))))).bind fun a59 => (whenO c54 (impl_compareEdges a59 a25)).bind fun a62 => (if (c54 && (decide (a62 ≥ 0))) = true then some (.inr ((.inr false))) else some (.inl ((W (x22_l0 + 1)))))) else some (.inr ((.inl (())))))
noncomputable def impl_AutoOk (p0 : TAuto) : Option Bool := bnd ((!(impl_headOk p0.letters p0.states p0.start))) fun c13 => (if (c13 || (decide (((p0.edges.length : Int)) > 2000))) = true then some false else (loop (fun s : Int => impl_AutoOk.b0 p0 s) 0).bind (Sum.elim (fun q => impl_AutoOk.k0) (fun q => some q)))

noncomputable def impl_isRanked (p0 : TAuto) : Option Bool := (impl_AutoOk p0).bind fun a4 => some ((a4 && (decide (p0.states ≤ 2))))

noncomputable def impl_has (p0 : Int) (p1 : Int) : Bool := (decide (((bAnd .i64 ((shr .i64 p0 ((IntKind.u64.wrap p1)))) 1)) = 1))

noncomputable def impl_rankStart.k0 (y7 : (List Int)) (y10 : Int) : Option TRankState := some ((TRankState.mk y7 y10))
noncomputable def impl_rankStart.k1 (y13 : (List Int)) (y16 : Int) (x8_l0 : Int) (x5_2 : Int) : Option (((List Int) × Int × Int) ⊕ ((List Int) × Int)) := (app 8 y13 ([x5_2])).bind fun z22 => some (.inl ((z22, y16, (W (x8_l0 + 1)))))
noncomputable def impl_rankStart.b0 (p0 : TAuto) (y13 : (List Int)) (y16 : Int) (x8_l0 : Int) : Option (((List Int) × Int × Int) ⊕ ((List Int) × Int)) := (if x8_l0 < p0.states then (if (impl_has p0.start x8_l0) = true then impl_rankStart.k1 y13 y16 x8_l0 ((W (2 * p0.states))) else impl_rankStart.k1 y13 y16 x8_l0 ((-1))) else some (.inr ((y13, y16))))
noncomputable def impl_rankStart (p0 : TAuto) : Option TRankState := (loop (fun s : ((List Int) × Int × Int) => impl_rankStart.b0 p0 s.1 s.2.1 s.2.2) (([], 0, 0))).bind (fun q => impl_rankStart.k0 q.1 q.2)

noncomputable def impl_RankStart (p0 : TAuto) : Option (TRankState × Bool) := (impl_isRanked p0).bind fun a5 => (if (!a5) = true then some (((TRankState.mk ([]) 0), false)) else (impl_rankStart p0).bind fun a9 => some (((TRankState.mk a9.ranks a9.owing), true)))

noncomputable def laws_eqIntS.k0 : Option Bool := some true
noncomputable def laws_eqIntS.b0 (p0 : (List Int)) (p1 : (List Int)) (x5_l0 : Int) : Option (Int ⊕ (Unit ⊕ Bool)) := (if x5_l0 < ((p0.length : Int)) then (ix p0 x5_l0).bind fun a19 => (ix p1 x5_l0).bind fun a23 => (if a19 ≠ a23 then some (.inr ((.inr false))) else some (.inl ((W (x5_l0 + 1))))) else some (.inr ((.inl (())))))
noncomputable def laws_eqIntS (p0 : (List Int)) (p1 : (List Int)) : Option Bool := (if ((p0.length : Int)) ≠ ((p1.length : Int)) then some false else (loop (fun s : Int => laws_eqIntS.b0 p0 p1 s) 0).bind (Sum.elim (fun q => laws_eqIntS.k0) (fun q => some q)))

noncomputable def laws_eqRankState (p0 : TRankState) (p1 : TRankState) : Option Bool := (laws_eqIntS p0.ranks p1.ranks).bind fun a9 => (if (!a9) = true then some false else (if p0.owing ≠ p1.owing then some false else some true))

noncomputable def laws_eqEdge (p0 : TEdge) (p1 : TEdge) : Bool := (if p0.from_ ≠ p1.from_ then false else (if p0.letter ≠ p1.letter then false else (if p0.to_ ≠ p1.to_ then false else (if (!(p0.good == p1.good)) = true then false else true))))

noncomputable def laws_eqEdgeS.k0 : Option Bool := some true
noncomputable def laws_eqEdgeS.b0 (p0 : (List TEdge)) (p1 : (List TEdge)) (x5_l0 : Int) : Option (Int ⊕ (Unit ⊕ Bool)) := (if x5_l0 < ((p0.length : Int)) then (ix p0 x5_l0).bind fun a19 => (ix p1 x5_l0).bind fun a23 => (if (!(laws_eqEdge a19 a23)) = true then some (.inr ((.inr false))) else some (.inl ((W (x5_l0 + 1))))) else some (.inr ((.inl (())))))
noncomputable def laws_eqEdgeS (p0 : (List TEdge)) (p1 : (List TEdge)) : Option Bool := (if ((p0.length : Int)) ≠ ((p1.length : Int)) then some false else (loop (fun s : Int => laws_eqEdgeS.b0 p0 p1 s) 0).bind (Sum.elim (fun q => laws_eqEdgeS.k0) (fun q => some q)))

noncomputable def laws_eqAuto (p0 : TAuto) (p1 : TAuto) : Option Bool := (if p0.letters ≠ p1.letters then some false else (if p0.states ≠ p1.states then some false else (if p0.start ≠ p1.start then some false else (laws_eqEdgeS p0.edges p1.edges).bind fun a24 => (if (!a24) = true then some false else some true))))

noncomputable def laws_markEdgeS.k0 (x1_1 : Int) (y2 : (List TEdge)) : Option (Int × (List TEdge)) := some ((x1_1, y2))
noncomputable def laws_markEdgeS.b0 (y4 : (List TEdge)) (x1_l0 : Int) (x5_l0 : Int) : Option (((List TEdge) × Int × Int) ⊕ (Int × (List TEdge))) := (if x5_l0 < ((y4.length : Int)) then (ck x5_l0 y4.length).bind fun m15 => (ck x5_l0 ((y4.set m15 ((fun q : TEdge => { q with from_ := x1_l0 }) (y4.getD m15 default)))).length).bind fun m22 => (ck x5_l0 ((((y4.set m15 ((fun q : TEdge => { q with from_ := x1_l0 }) (y4.getD m15 default)))).set m22 ((fun q : TEdge => { q with letter := (W (x1_l0 + 1)) }) (((y4.set m15 ((fun q : TEdge => { q with from_ := x1_l0 }) (y4.getD m15 default)))).getD m22 default)))).length).bind fun m29 => (ck x5_l0 ((((((y4.set m15 ((fun q : TEdge => { q with from_ := x1_l0 }) (y4.getD m15 default)))).set m22 ((fun q : TEdge => { q with letter := (W (x1_l0 + 1)) }) (((y4.set m15 ((fun q : TEdge => { q with from_ := x1_l0 }) (y4.getD m15 default)))).getD m22 default)))).set m29 ((fun q : TEdge => { q with to_ := (W (((W (x1_l0 + 1))) + 1)) }) (((((y4.set m15 ((fun q : TEdge => { q with from_ := x1_l0 }) (y4.getD m15 default)))).set m22 ((fun q : TEdge => { q with letter := (W (x1_l0 + 1)) }) (((y4.set m15 ((fun q : TEdge => { q with from_ := x1_l0 }) (y4.getD m15 default)))).getD m22 default)))).getD m29 default)))).length).bind fun m38 => some (.inl (((((((((y4.set m15 ((fun q : TEdge => { q with from_ := x1_l0 }) (y4.getD m15 default)))).set m22 ((fun q : TEdge => { q with letter := (W (x1_l0 + 1)) }) (((y4.set m15 ((fun q : TEdge => { q with from_ := x1_l0 }) (y4.getD m15 default)))).getD m22 default)))).set m29 ((fun q : TEdge => { q with to_ := (W (((W (x1_l0 + 1))) + 1)) }) (((((y4.set m15 ((fun q : TEdge => { q with from_ := x1_l0 }) (y4.getD m15 default)))).set m22 ((fun q : TEdge => { q with letter := (W (x1_l0 + 1)) }) (((y4.set m15 ((fun q : TEdge => { q with from_ := x1_l0 }) (y4.getD m15 default)))).getD m22 default)))).getD m29 default)))).set m38 ((fun q : TEdge => { q with good := (decide (((Int.tmod ((W (((W (((W (x1_l0 + 1))) + 1))) + 1))) 3)) = 0)) }) (((((((y4.set m15 ((fun q : TEdge => { q with from_ := x1_l0 }) (y4.getD m15 default)))).set m22 ((fun q : TEdge => { q with letter := (W (x1_l0 + 1)) }) (((y4.set m15 ((fun q : TEdge => { q with from_ := x1_l0 }) (y4.getD m15 default)))).getD m22 default)))).set m29 ((fun q : TEdge => { q with to_ := (W (((W (x1_l0 + 1))) + 1)) }) (((((y4.set m15 ((fun q : TEdge => { q with from_ := x1_l0 }) (y4.getD m15 default)))).set m22 ((fun q : TEdge => { q with letter := (W (x1_l0 + 1)) }) (((y4.set m15 ((fun q : TEdge => { q with from_ := x1_l0 }) (y4.getD m15 default)))).getD m22 default)))).getD m29 default)))).getD m38 default))), (W (((W (((W (((W (x1_l0 + 1))) + 1))) + 1))) + 1)), (W (x5_l0 + 1))))) else some (.inr ((x1_l0, y4))))
noncomputable def laws_markEdgeS (p0 : (List TEdge)) (p1 : Int) : Option (Int × (List TEdge)) := (loop (fun s : ((List TEdge) × Int × Int) => laws_markEdgeS.b0 s.1 s.2.1 s.2.2) ((p0, p1, 0))).bind (fun q => laws_markEdgeS.k0 q.1 q.2)

noncomputable def laws_markAuto (p0 : TAuto) (p1 : Int) : Option (Int × TAuto) := (laws_markEdgeS p0.edges p1).bind fun a8 => some ((a8.1, (TAuto.mk p0.letters p0.states p0.start a8.2)))

noncomputable def laws_markIntS.k0 (x1_1 : Int) (y2 : (List Int)) : Option (Int × (List Int)) := some ((x1_1, y2))
noncomputable def laws_markIntS.b0 (y4 : (List Int)) (x1_l0 : Int) (x5_l0 : Int) : Option (((List Int) × Int × Int) ⊕ (Int × (List Int))) := (if x5_l0 < ((y4.length : Int)) then (ck x5_l0 y4.length).bind fun m15 => some (.inl (((y4.set m15 x1_l0), (W (x1_l0 + 1)), (W (x5_l0 + 1))))) else some (.inr ((x1_l0, y4))))
noncomputable def laws_markIntS (p0 : (List Int)) (p1 : Int) : Option (Int × (List Int)) := (loop (fun s : ((List Int) × Int × Int) => laws_markIntS.b0 s.1 s.2.1 s.2.2) ((p0, p1, 0))).bind (fun q => laws_markIntS.k0 q.1 q.2)

noncomputable def laws_markRankState (p0 : TRankState) (p1 : Int) : Option (Int × TRankState) := (laws_markIntS p0.ranks p1).bind fun a8 => some ((a8.1, (TRankState.mk a8.2 p0.owing)))

noncomputable def laws_heldIntS.k0 (x1_1 : Int) : Option Int := some x1_1
noncomputable def laws_heldIntS.b0 (p0 : (List Int)) (x1_l0 : Int) (x5_l0 : Int) : Option ((Int × Int) ⊕ (Int ⊕ Int)) := (if x5_l0 < ((p0.length : Int)) then (ix p0 x5_l0).bind fun a14 => (if a14 ≠ x1_l0 then some (.inr ((.inr ((-1))))) else some (.inl (((W (x1_l0 + 1)), (W (x5_l0 + 1)))))) else some (.inr ((.inl x1_l0))))
noncomputable def laws_heldIntS (p0 : (List Int)) (p1 : Int) : Option Int := (loop (fun s : (Int × Int) => laws_heldIntS.b0 p0 s.1 s.2) ((p1, 0))).bind (Sum.elim (fun q => laws_heldIntS.k0 q) (fun q => some q))

noncomputable def laws_heldRankState (p0 : TRankState) (p1 : Int) : Option Int := (laws_heldIntS p0.ranks p1).bind fun a8 => (if a8 < 0 then some ((-1)) else some a8)

noncomputable def laws_FnExactRankStart (p0 : TAuto) : Option Bool := (if ((laws_szAuto p0 1048576)) < 0 then some true else (laws_toAuto p0).bind fun a21 => (spec_RankStart ((TAuto.mk a21.letters a21.states a21.start a21.edges))).bind fun a22 => (laws_toAuto p0).bind fun a26 => (impl_RankStart ((TAuto.mk a26.letters a26.states a26.start a26.edges))).bind fun a29 => (laws_eqRankState ((TRankState.mk a29.1.ranks a29.1.owing)) ((TRankState.mk a22.1.ranks a22.1.owing))).bind fun a34 => bnd ((!a34)) fun c36 => (if (c36 || (!(a29.2 == a22.2))) = true then some false else (laws_toAuto p0).bind fun a43 => (laws_eqAuto ((TAuto.mk a26.letters a26.states a26.start a26.edges)) ((TAuto.mk a43.letters a43.states a43.start a43.edges))).bind fun a44 => (if (!a44) = true then some false else (laws_markAuto ((TAuto.mk a26.letters a26.states a26.start a26.edges)) 1).bind fun a48 => bnd ((decide (a48.1 < 0))) fun c51 => (whenO (!c51) (laws_eqRankState ((TRankState.mk a29.1.ranks a29.1.owing)) ((TRankState.mk a22.1.ranks a22.1.owing)))).bind fun a54 => bnd ((c51 || (!a54))) fun c57 => (if (c57 || (!(a29.2 == a22.2))) = true then some false else (laws_markRankState ((TRankState.mk a29.1.ranks a29.1.owing)) 1).bind fun a64 => (laws_heldRankState ((TRankState.mk a64.2.ranks a29.1.owing)) 1).bind fun a67 => (if a67 < 0 then some false else (if a67 ≠ a64.1 then some false else (laws_toAuto p0).bind fun a75 => (impl_RankStart ((TAuto.mk a75.letters a75.states a75.start a75.edges))).bind fun a76 => (laws_eqRankState ((TRankState.mk a76.1.ranks a76.1.owing)) ((TRankState.mk a22.1.ranks a22.1.owing))).bind fun a81 => bnd ((!a81)) fun c83 => (if (c83 || (!(a76.2 == a22.2))) = true then some false else (laws_heldRankState ((TRankState.mk a64.2.ranks a29.1.owing)) 1).bind fun a90 => (if a90 < 0 then some false else (if a90 ≠ a64.1 then some false else some true)))))))))

end Go.Proofs.Ytllpbgcajgbfbaa
