/- Plain functions that the program's functions come to: FnExactRankNext. -/
import Derived.Test.YtllpbgcajgbfbaaTy
namespace Go.Proofs.Ytllpbgcajgbfbaa
open Go Go.RowKit E
set_option linter.unusedVariables false
noncomputable def laws_szEdgeS (p0 : (List TEdge)) (p1 : Int) : Int := (if ((W (p1 - ((p0.length : Int))))) < 0 then (-1) else (W (p1 - ((p0.length : Int)))))

noncomputable def laws_szAuto (p0 : TAuto) (p1 : Int) : Int := (if ((laws_szEdgeS p0.edges p1)) < 0 then (-1) else (laws_szEdgeS p0.edges p1))

noncomputable def laws_szIntS (p0 : (List Int)) (p1 : Int) : Int := (if ((W (p1 - ((p0.length : Int))))) < 0 then (-1) else (W (p1 - ((p0.length : Int)))))

noncomputable def laws_szRankState (p0 : TRankState) (p1 : Int) : Int := (if ((laws_szIntS p0.ranks p1)) < 0 then (-1) else (laws_szIntS p0.ranks p1))

noncomputable def laws_toEdge (p0 : TEdge) : TEdge := p0

noncomputable def laws_toEdgeS.k0 (y4 : (List TEdge)) : Option (List TEdge) := some y4
noncomputable def laws_toEdgeS.b0 (p0 : (List TEdge)) (y6 : (List TEdge)) (x4_l0 : Int) : Option (((List TEdge) × Int) ⊕ (List TEdge)) := (if x4_l0 < ((p0.length : Int)) then (ix p0 x4_l0).bind fun a18 => (ck x4_l0 y6.length).bind fun m21 => some (.inl (((y6.set m21 ((laws_toEdge a18))), (W (x4_l0 + 1))))) else some (.inr y6))
noncomputable def laws_toEdgeS (p0 : (List TEdge)) : Option (List TEdge) := (mk 32 (TEdge.mk (0 : Int) (0 : Int) (0 : Int) false) ((p0.length : Int))).bind fun z7 => (loop (fun s : ((List TEdge) × Int) => laws_toEdgeS.b0 p0 s.1 s.2) ((z7, 0))).bind (fun q => laws_toEdgeS.k0 q)

noncomputable def laws_toAuto (p0 : TAuto) : Option TAuto := (laws_toEdgeS p0.edges).bind fun a15 => some ((TAuto.mk p0.letters p0.states p0.start a15))

noncomputable def laws_toIntS.k0 (y4 : (List Int)) : Option (List Int) := some y4
noncomputable def laws_toIntS.b0 (p0 : (List Int)) (y6 : (List Int)) (x4_l0 : Int) : Option (((List Int) × Int) ⊕ (List Int)) := (if x4_l0 < ((p0.length : Int)) then (ix p0 x4_l0).bind fun a18 => (ck x4_l0 y6.length).bind fun m20 => some (.inl (((y6.set m20 a18), (W (x4_l0 + 1))))) else some (.inr y6))
noncomputable def laws_toIntS (p0 : (List Int)) : Option (List Int) := (mk 8 (0 : Int) ((p0.length : Int))).bind fun z7 => (loop (fun s : ((List Int) × Int) => laws_toIntS.b0 p0 s.1 s.2) ((z7, 0))).bind (fun q => laws_toIntS.k0 q)

noncomputable def laws_toRankState (p0 : TRankState) : Option TRankState := (laws_toIntS p0.ranks).bind fun a6 => some ((TRankState.mk a6 p0.owing))

noncomputable def spec_l1In (p0 : Int) (p1 : Int) (p2 : Int) : Bool := bnd ((decide (p0 ≥ p1))) fun c10 => (c10 && (decide (p0 ≤ p2)))

noncomputable def spec_SetOk (p0 : Int) : Bool := (spec_l1In p0 0 2147483647)

noncomputable def spec_SetIn (p0 : Int) (p1 : Int) : Bool := bnd ((spec_SetOk p0)) fun c7 => bnd ((c7 && (spec_SetOk p1))) fun c11 => (c11 && (decide (((bAnd .i64 p0 p1)) = p0)))

noncomputable def spec_l4State (p0 : Int) (p1 : Int) : Bool := (spec_l1In p0 0 ((W (p1 - 1))))

noncomputable def spec_l4Less (p0 : TEdge) (p1 : TEdge) : Bool := (if p0.from_ ≠ p1.from_ then (decide (p0.from_ < p1.from_)) else (if p0.letter ≠ p1.letter then (decide (p0.letter < p1.letter)) else (decide (p0.to_ < p1.to_))))

noncomputable def spec_AutoOk.k0 : Option Bool := some true
noncomputable def spec_AutoOk.b0 (p0 : TAuto) (x3_l0 : Int) : Option (Int ⊕ (Unit ⊕ Bool)) := (if x3_l0 < ((p0.edges.length : Int)) then (ix p0.edges x3_l0).bind fun a41 => bnd ((!(spec_l4State a41.from_ p0.states))) fun c49 => bnd ((c49 || (!(spec_l4State a41.to_ p0.states)))) fun c57 => bnd ((c57 || (!(spec_l1In a41.letter 0 ((W (p0.letters - 1))))))) fun c66 => bnd ((decide (x3_l0 > 0))) fun c69 => (whenO ((!c66) && c69) (ix p0.edges ((W (x3_l0 - 1))))).bind fun a74 => (if (c66 || (c69 && (!(spec_l4Less a74 a41)))) = true then some (.inr ((.inr false))) else some (.inl ((W (x3_l0 + 1))))) else some (.inr ((.inl (())))))
noncomputable def spec_AutoOk (p0 : TAuto) : Option Bool := bnd ((!(spec_l1In p0.letters 1 8))) fun c9 => bnd ((c9 || (!(spec_l1In p0.states 0 31)))) fun c15 => (whenO (!c15) (chk (decide (0 ≤ p0.states)))).bind fun u1 => bnd ((c15 || (!(spec_SetIn p0.start ((W (((shl .i64 1 p0.states)) - 1))))))) fun c25 => (if (c25 || (decide (((p0.edges.length : Int)) > 2000))) = true then some false else (loop (fun s : Int => spec_AutoOk.b0 p0 s) 0).bind (Sum.elim (fun q => spec_AutoOk.k0) (fun q => some q)))

noncomputable def spec_l13States (p0 : TAuto) : Option Bool := (spec_AutoOk p0).bind fun a4 => some ((a4 && (decide (p0.states ≤ 2))))

noncomputable def spec_l1Bit (p0 : Int) : Option Int := (chk (decide (0 ≤ ((bAnd .i64 p0 31))))).bind fun u1 => some ((shl .i64 1 ((bAnd .i64 p0 31))))

noncomputable def spec_l1Has (p0 : Int) (p1 : Int) : Option Bool := bnd ((spec_l1In p1 0 30)) fun c7 => (whenO c7 (spec_l1Bit p1)).bind fun a10 => some ((c7 && (decide (((bAnd .i64 p0 a10)) ≠ 0))))

noncomputable def spec_l13Ok.k0 : Option Bool := some true
noncomputable def spec_l13Ok.b0 (p0 : TAuto) (p1 : TRankState) (x5_l0 : Int) : Option (Int ⊕ (Unit ⊕ Bool)) := (if x5_l0 < p0.states then (ix p1.ranks x5_l0).bind fun a32 => bnd ((!(spec_l1In a32 ((-1)) ((W (2 * p0.states)))))) fun c40 => (whenO (!c40) (spec_l1Has p1.owing x5_l0)).bind fun a44 => bnd ((decide (a32 < 0))) fun c48 => (if (c40 || (a44 && (c48 || (decide (((Int.tmod a32 2)) = 1))))) = true then some (.inr ((.inr false))) else some (.inl ((W (x5_l0 + 1))))) else some (.inr ((.inl (())))))
noncomputable def spec_l13Ok (p0 : TAuto) (p1 : TRankState) : Option Bool := bnd ((decide (((p1.ranks.length : Int)) ≠ p0.states))) fun c13 => (whenO (!c13) (chk (decide (0 ≤ p0.states)))).bind fun u1 => (if (c13 || (!(spec_SetIn p1.owing ((W (((shl .i64 1 p0.states)) - 1)))))) = true then some false else (loop (fun s : Int => spec_l13Ok.b0 p0 p1 s) 0).bind (Sum.elim (fun q => spec_l13Ok.k0) (fun q => some q)))

noncomputable def spec_RankOk (p0 : TAuto) (p1 : TRankState) : Option Bool := (spec_l13States p0).bind fun a6 => (whenO a6 (spec_l13Ok p0 p1)).bind fun a10 => some ((a6 && a10))

noncomputable def spec_l13Bounds.k1 (y7 : (List Int)) : Option (List Int) := some y7
noncomputable def spec_l13Bounds.k2 (y9 : (List Int)) (a32 : TEdge) (x9_l0 : Int) (x11_3 : Int) : Option (((List Int) × Int) ⊕ (List Int)) := (ix y9 a32.to_).bind fun a57 => bnd ((decide (a57 < 0))) fun c60 => (whenO (!c60) (ix y9 a32.to_)).bind fun a65 => (if (c60 || (decide (x11_3 < a65))) = true then (ck a32.to_ y9.length).bind fun m73 => some (.inl (((y9.set m73 x11_3), (W (x9_l0 + 1))))) else some (.inl ((y9, (W (x9_l0 + 1))))))
noncomputable def spec_l13Bounds.b0 (p0 : TAuto) (p1 : TRankState) (p2 : Int) (y9 : (List Int)) (x9_l0 : Int) : Option (((List Int) × Int) ⊕ (List Int)) := (if x9_l0 < ((p0.edges.length : Int)) then (ix p0.edges x9_l0).bind fun a32 => (ix p1.ranks a32.from_).bind fun a38 => bnd ((decide (a32.letter ≠ p2))) fun c44 => (if (c44 || (decide (a38 < 0))) = true then some (.inl ((y9, (W (x9_l0 + 1))))) else (if a32.good = true then spec_l13Bounds.k2 y9 a32 x9_l0 ((W (a38 - ((Int.tmod a38 2))))) else spec_l13Bounds.k2 y9 a32 x9_l0 a38)) else some (.inr y9))
noncomputable def spec_l13Bounds.k0 (p0 : TAuto) (p1 : TRankState) (p2 : Int) (y4 : (List Int)) : Option (List Int) := (loop (fun s : ((List Int) × Int) => spec_l13Bounds.b0 p0 p1 p2 s.1 s.2) ((y4, 0))).bind (fun q => spec_l13Bounds.k1 q)
noncomputable def spec_l13Bounds.b1 (p0 : TAuto) (y26 : (List Int)) (x8_l1 : Int) : Option (((List Int) × Int) ⊕ (List Int)) := (if x8_l1 < p0.states then (app 8 y26 ([(-1)])).bind fun z21 => some (.inl ((z21, (W (x8_l1 + 1))))) else some (.inr y26))
noncomputable def spec_l13Bounds (p0 : TAuto) (p1 : TRankState) (p2 : Int) : Option (List Int) := (loop (fun s : ((List Int) × Int) => spec_l13Bounds.b1 p0 s.1 s.2) (([], 0))).bind (fun q => spec_l13Bounds.k0 p0 p1 p2 q)

noncomputable def spec_l1Min (p0 : Int) (p1 : Int) : Int := (if p0 < p1 then p0 else p1)

noncomputable def spec_l4Next.k0 (x7_1 : Int) : Option Int := some x7_1
noncomputable def spec_l4Next.b0 (p0 : TAuto) (p2 : Int) (p1 : Int) (x7_l0 : Int) (x8_l0 : Int) : Option ((Int × Int) ⊕ Int) := (if x8_l0 < ((p0.edges.length : Int)) then (ix p0.edges x8_l0).bind fun a20 => bnd ((decide (a20.letter = p2))) fun c26 => (whenO c26 (spec_l1Has p1 a20.from_)).bind fun a30 => (if (c26 && a30) = true then (spec_l1Bit a20.to_).bind fun a35 => some (.inl (((bOr .i64 x7_l0 a35), (W (x8_l0 + 1))))) else some (.inl ((x7_l0, (W (x8_l0 + 1)))))) else some (.inr x7_l0))
noncomputable def spec_l4Next (p0 : TAuto) (p1 : Int) (p2 : Int) : Option Int := (loop (fun s : (Int × Int) => spec_l4Next.b0 p0 p2 p1 s.1 s.2) ((0, 0))).bind (fun q => spec_l4Next.k0 q)

noncomputable def spec_l13Next.k2 (y5 : (List TRankState)) : Option (List TRankState) := some y5
noncomputable def spec_l13Next.k3 (x15_l0 : Int) (y19 : (List TRankState)) : Option (((List TRankState) × Int) ⊕ (List TRankState)) := some (.inl ((y19, (W (x15_l0 + 1)))))
noncomputable def spec_l13Next.k4 (x8_1 : (List (List Int))) (x15_l0 : Int) (y9 : (List TRankState)) (x16_5 : Int) : Option (((List TRankState) × Int) ⊕ (List TRankState)) := (ix x8_1 x15_l0).bind fun a119 => (app 32 y9 ([(TRankState.mk a119 x16_5)])).bind fun z124 => spec_l13Next.k3 x15_l0 z124
noncomputable def spec_l13Next.b1 (p0 : TAuto) (x8_1 : (List (List Int))) (x15_l0 : Int) (x13_2 : Int) (x16_l1 : Int) (x17_l1 : Int) : Option ((Int × Int) ⊕ Int) := (if x17_l1 < p0.states then (ix x8_1 x15_l0).bind fun a90 => (ix a90 x17_l1).bind fun a93 => bnd ((decide (a93 ≥ 0))) fun c96 => (whenO c96 (ix x8_1 x15_l0)).bind fun a99 => (whenO c96 (ix a99 x17_l1)).bind fun a102 => bnd ((c96 && (decide (((Int.tmod a102 2)) = 0)))) fun c107 => (whenO c107 (spec_l1Has x13_2 x17_l1)).bind fun a110 => (if (c107 && a110) = true then (spec_l1Bit x17_l1).bind fun a114 => some (.inl (((bOr .i64 x16_l1 a114), (W (x17_l1 + 1))))) else some (.inl ((x16_l1, (W (x17_l1 + 1)))))) else some (.inr x16_l1))
noncomputable def spec_l13Next.b0 (x8_1 : (List (List Int))) (p0 : TAuto) (x13_2 : Int) (y9 : (List TRankState)) (x15_l0 : Int) : Option (((List TRankState) × Int) ⊕ (List TRankState)) := (if x15_l0 < ((x8_1.length : Int)) then (loop (fun s : (Int × Int) => spec_l13Next.b1 p0 x8_1 x15_l0 x13_2 s.1 s.2) ((0, 0))).bind (fun q => spec_l13Next.k4 x8_1 x15_l0 y9 q) else some (.inr y9))
noncomputable def spec_l13Next.k1 (x8_1 : (List (List Int))) (p0 : TAuto) (x13_2 : Int) : Option (List TRankState) := (loop (fun s : ((List TRankState) × Int) => spec_l13Next.b0 x8_1 p0 x13_2 s.1 s.2) (([], 0))).bind (fun q => spec_l13Next.k2 q)
noncomputable def spec_l13Next.k0 (p0 : TAuto) (p1 : TRankState) (p2 : Int) (x8_1 : (List (List Int))) : Option (List TRankState) := (chk (decide (0 ≤ p0.states))).bind fun u2 => (if p1.owing ≠ 0 then (spec_l4Next p0 p1.owing p2).bind fun a74 => spec_l13Next.k1 x8_1 p0 a74 else spec_l13Next.k1 x8_1 p0 ((W (((shl .i64 1 p0.states)) - 1))))
noncomputable def spec_l13Next.k5 (x9_l2 : Int) (x8_6 : (List (List Int))) : Option (((List (List Int)) × Int) ⊕ (List (List Int))) := some (.inl ((x8_6, (W (x9_l2 + 1)))))
noncomputable def spec_l13Next.k6 (x9_l2 : Int) (y47 : (List (List Int))) : Option (((List (List Int)) × Int) ⊕ (List (List Int))) := spec_l13Next.k5 x9_l2 y47
noncomputable def spec_l13Next.k7 (x11_l3 : Int) (y62 : (List (List Int))) : Option (((List (List Int)) × Int) ⊕ (List (List Int))) := some (.inl ((y62, (W (x11_l3 + 1)))))
noncomputable def spec_l13Next.b4 (a21 : (List Int)) (x9_l2 : Int) (x8_l2 : (List (List Int))) (x11_l3 : Int) (y66 : (List (List Int))) (x12_l4 : Int) : Option (((List (List Int)) × Int) ⊕ (List (List Int))) := (ix a21 x9_l2).bind fun a45 => (if x12_l4 ≤ a45 then (ix x8_l2 x11_l3).bind fun a54 => (app 8 ([]) a54).bind fun z56 => (app 8 z56 ([x12_l4])).bind fun z59 => (app 24 y66 ([z59])).bind fun z61 => some (.inl ((z61, (W (x12_l4 + 1))))) else some (.inr y66))
noncomputable def spec_l13Next.b3 (x8_l2 : (List (List Int))) (a21 : (List Int)) (x9_l2 : Int) (y52 : (List (List Int))) (x11_l3 : Int) : Option (((List (List Int)) × Int) ⊕ (List (List Int))) := (if x11_l3 < ((x8_l2.length : Int)) then (ix a21 x9_l2).bind fun a39 => (loop (fun s : ((List (List Int)) × Int) => spec_l13Next.b4 a21 x9_l2 x8_l2 x11_l3 s.1 s.2) ((y52, (spec_l1Min 0 a39)))).bind (fun q => spec_l13Next.k7 x11_l3 q) else some (.inr y52))
noncomputable def spec_l13Next.b2 (p0 : TAuto) (a21 : (List Int)) (x8_l2 : (List (List Int))) (x9_l2 : Int) : Option (((List (List Int)) × Int) ⊕ (List (List Int))) := (if x9_l2 < p0.states then (loop (fun s : ((List (List Int)) × Int) => spec_l13Next.b3 x8_l2 a21 x9_l2 s.1 s.2) (([], 0))).bind (fun q => spec_l13Next.k6 x9_l2 q) else some (.inr x8_l2))
noncomputable def spec_l13Next (p0 : TAuto) (p1 : TRankState) (p2 : Int) : Option (List TRankState) := (spec_l13Bounds p0 p1 p2).bind fun a21 => (loop (fun s : ((List (List Int)) × Int) => spec_l13Next.b2 p0 a21 s.1 s.2) (([[]], 0))).bind (fun q => spec_l13Next.k0 p0 p1 p2 q)

noncomputable def spec_RankNext (p0 : TAuto) (p1 : TRankState) (p2 : Int) : Option (List TRankState) := (spec_RankOk p0 p1).bind fun a9 => bnd ((!a9)) fun c11 => (if (c11 || (!(spec_l1In p2 0 ((W (p0.letters - 1)))))) = true then some ([]) else (spec_l13Next p0 p1 p2).bind fun a23 => some a23)

noncomputable def impl_inRange (p0 : Int) (p1 : Int) (p2 : Int) : Bool := bnd ((decide (p0 ≥ p1))) fun c10 => (c10 && (decide (p0 ≤ p2)))

noncomputable def impl_isLetters (p0 : Int) : Bool := (impl_inRange p0 1 8)

noncomputable def impl_SetOk (p0 : Int) : Bool := (impl_inRange p0 0 2147483647)

noncomputable def impl_only (p0 : Int) : Int := (shl .i64 1 ((IntKind.u64.wrap p0)))

noncomputable def impl_headOk (p0 : Int) (p1 : Int) (p2 : Int) : Bool := bnd ((impl_isLetters p0)) fun c9 => bnd ((c9 && (impl_inRange p1 0 31))) fun c13 => bnd ((c13 && (impl_SetOk p2))) fun c17 => (c17 && (decide (p2 < ((impl_only p1)))))

noncomputable def cmp_isNaN_int (p0 : Int) : Bool := (decide (p0 ≠ p0))

noncomputable def cmp_Compare_int (p0 : Int) (p1 : Int) : Int := (if (cmp_isNaN_int p0) = true then (if (cmp_isNaN_int p1) = true then 0 else (-1)) else (if (cmp_isNaN_int p1) = true then 1 else (if p0 < p1 then (-1) else (if p0 > p1 then 1 else 0))))

noncomputable def cmp_Or_int.k0 : Option Int := some 0
noncomputable def cmp_Or_int.b0 (p0 : (List Int)) (x8_l0 : Int) : Option (Int ⊕ (Unit ⊕ Int)) := (if x8_l0 < ((p0.length : Int)) then (ix p0 x8_l0).bind fun a10 => (if a10 ≠ 0 then some (.inr ((.inr a10))) else some (.inl ((W (x8_l0 + 1))))) else some (.inr ((.inl (())))))
noncomputable def cmp_Or_int (p0 : (List Int)) : Option Int := (loop (fun s : Int => cmp_Or_int.b0 p0 s) 0).bind (Sum.elim (fun q => cmp_Or_int.k0) (fun q => some q))

noncomputable def impl_compareEdges (p0 : TEdge) (p1 : TEdge) : Option Int := (cmp_Or_int ([(cmp_Compare_int p0.from_ p1.from_), (cmp_Compare_int p0.letter p1.letter), (cmp_Compare_int p0.to_ p1.to_)])).bind fun a21 => some a21

noncomputable def impl_AutoOk.k0 : Option Bool := some true
noncomputable def impl_AutoOk.b0 (p0 : TAuto) (x22_l0 : Int) : Option (Int ⊕ (Unit ⊕ Bool)) := (if x22_l0 < ((p0.edges.length : Int)) then (ix p0.edges x22_l0).bind fun a25 => bnd ((!(impl_inRange a25.from_ 0 ((W (p0.states - 1)))))) fun c34 => bnd ((c34 || (!(impl_inRange a25.to_ 0 ((W (p0.states - 1))))))) fun c43 => (if (c43 || (!(impl_inRange a25.letter 0 ((W (p0.letters - 1)))))) = true then some (.inr ((.inr false))) else bnd ((decide (x22_l0 > 0))) fun c54 => (whenO c54 (ix p0.edges ((W (x22_l0 - 1))))).bind fun a59 => (whenO c54 (impl_compareEdges a59 a25)).bind fun a62 => (if (c54 && (decide (a62 ≥ 0))) = true then some (.inr ((.inr false))) else some (.inl ((W (x22_l0 + 1)))))) else some (.inr ((.inl (())))))
noncomputable def impl_AutoOk (p0 : TAuto) : Option Bool := bnd ((!(impl_headOk p0.letters p0.states p0.start))) fun c13 => (if (c13 || (decide (((p0.edges.length : Int)) > 2000))) = true then some false else (loop (fun s : Int => impl_AutoOk.b0 p0 s) 0).bind (Sum.elim (fun q => impl_AutoOk.k0) (fun q => some q)))

noncomputable def impl_isRanked (p0 : TAuto) : Option Bool := (impl_AutoOk p0).bind fun a4 => some ((a4 && (decide (p0.states ≤ 2))))

noncomputable def impl_has (p0 : Int) (p1 : Int) : Bool := (decide (((bAnd .i64 ((shr .i64 p0 ((IntKind.u64.wrap p1)))) 1)) = 1))

noncomputable def impl_RankOk.k0 : Option Bool := some true
noncomputable def impl_RankOk.b0 (p1 : TRankState) (p0 : TAuto) (x35_l0 : Int) : Option (Int ⊕ (Unit ⊕ Bool)) := (if x35_l0 < ((p1.ranks.length : Int)) then (ix p1.ranks x35_l0).bind fun a38 => bnd ((!(impl_inRange a38 ((-1)) ((W (2 * p0.states)))))) fun c46 => bnd ((impl_has p1.owing x35_l0)) fun c51 => bnd ((decide (a38 < 0))) fun c54 => (if (c46 || (c51 && (c54 || (decide (((Int.tmod a38 2)) ≠ 0))))) = true then some (.inr ((.inr false))) else some (.inl ((W (x35_l0 + 1))))) else some (.inr ((.inl (())))))
noncomputable def impl_RankOk (p0 : TAuto) (p1 : TRankState) : Option Bool := (impl_isRanked p0).bind fun a8 => bnd ((!a8)) fun c10 => bnd ((c10 || (decide (((p1.ranks.length : Int)) ≠ p0.states)))) fun c18 => bnd ((c18 || (!(impl_SetOk p1.owing)))) fun c24 => (if (c24 || (decide (p1.owing ≥ ((impl_only p0.states))))) = true then some false else (loop (fun s : Int => impl_RankOk.b0 p1 p0 s) 0).bind (Sum.elim (fun q => impl_RankOk.k0) (fun q => some q)))

noncomputable def impl_bounds.k1 (y5 : (List Int)) : Option (List Int) := some y5
noncomputable def impl_bounds.k2 (y7 : (List Int)) (a29 : TEdge) (x27_l0 : Int) (x11_3 : Int) : Option (((List Int) × Int) ⊕ (List Int)) := (ix y7 a29.to_).bind fun a54 => bnd ((decide (a54 < 0))) fun c57 => (whenO (!c57) (ix y7 a29.to_)).bind fun a62 => (if (c57 || (decide (x11_3 < a62))) = true then (ck a29.to_ y7.length).bind fun m70 => some (.inl (((y7.set m70 x11_3), (W (x27_l0 + 1))))) else some (.inl ((y7, (W (x27_l0 + 1))))))
noncomputable def impl_bounds.b0 (p0 : TAuto) (p1 : TRankState) (p2 : Int) (y7 : (List Int)) (x27_l0 : Int) : Option (((List Int) × Int) ⊕ (List Int)) := (if x27_l0 < ((p0.edges.length : Int)) then (ix p0.edges x27_l0).bind fun a29 => (ix p1.ranks a29.from_).bind fun a35 => bnd ((decide (a29.letter ≠ p2))) fun c41 => (if (c41 || (decide (a35 < 0))) = true then some (.inl ((y7, (W (x27_l0 + 1))))) else (if a29.good = true then impl_bounds.k2 y7 a29 x27_l0 ((W (a35 - ((Int.tmod a35 2))))) else impl_bounds.k2 y7 a29 x27_l0 a35)) else some (.inr y7))
noncomputable def impl_bounds.k0 (p0 : TAuto) (p1 : TRankState) (p2 : Int) (y4 : (List Int)) : Option (List Int) := (loop (fun s : ((List Int) × Int) => impl_bounds.b0 p0 p1 p2 s.1 s.2) ((y4, 0))).bind (fun q => impl_bounds.k1 q)
noncomputable def impl_bounds.b1 (z14 : (List Int)) (y24 : (List Int)) (x17_l1 : Int) : Option (((List Int) × Int) ⊕ (List Int)) := (if x17_l1 < ((z14.length : Int)) then (ck x17_l1 y24.length).bind fun m22 => some (.inl (((y24.set m22 ((-1))), (W (x17_l1 + 1))))) else some (.inr y24))
noncomputable def impl_bounds (p0 : TAuto) (p1 : TRankState) (p2 : Int) : Option (List Int) := (mk 8 (0 : Int) p0.states).bind fun z14 => (loop (fun s : ((List Int) × Int) => impl_bounds.b1 z14 s.1 s.2) ((z14, 0))).bind (fun q => impl_bounds.k0 p0 p1 p2 q)

noncomputable def slices_Clone_int_int (p0 : (List Int)) : Option (List Int) := (if p0 = [] then some ([]) else (app 8 ([]) p0).bind fun z7 => some z7)

noncomputable def impl_Auto_step.k0 (x7_1 : Int) : Option Int := some x7_1
noncomputable def impl_Auto_step.b0 (p0 : TAuto) (p2 : Int) (p1 : Int) (x7_l0 : Int) (x15_l0 : Int) : Option ((Int × Int) ⊕ Int) := (if x15_l0 < ((p0.edges.length : Int)) then (ix p0.edges x15_l0).bind fun a17 => bnd ((decide (a17.letter = p2))) fun c23 => (if (c23 && (impl_has p1 a17.from_)) = true then some (.inl (((bOr .i64 x7_l0 ((impl_only a17.to_))), (W (x15_l0 + 1))))) else some (.inl ((x7_l0, (W (x15_l0 + 1)))))) else some (.inr x7_l0))
noncomputable def impl_Auto_step (p0 : TAuto) (p1 : Int) (p2 : Int) : Option Int := (loop (fun s : (Int × Int) => impl_Auto_step.b0 p0 p2 p1 s.1 s.2) ((0, 0))).bind (fun q => impl_Auto_step.k0 q)

noncomputable def impl_rankNext.k2 (y3 : (List TRankState)) : Option (List TRankState) := some y3
noncomputable def impl_rankNext.k3 (x68_l0 : Int) (y17 : (List TRankState)) : Option (((List TRankState) × Int) ⊕ (List TRankState)) := some (.inl ((y17, (W (x68_l0 + 1)))))
noncomputable def impl_rankNext.k4 (y7 : (List TRankState)) (x68_l0 : Int) (y24 : (List Int)) (y25 : Int) : Option (((List TRankState) × Int) ⊕ (List TRankState)) := (app 32 y7 ([(TRankState.mk y24 y25)])).bind fun z103 => impl_rankNext.k3 x68_l0 z103
noncomputable def impl_rankNext.b1 (a70 : (List Int)) (x14_2 : Int) (y29 : (List Int)) (y30 : Int) (x76_l1 : Int) : Option (((List Int) × Int × Int) ⊕ ((List Int) × Int)) := (if x76_l1 < ((a70.length : Int)) then (ix a70 x76_l1).bind fun a79 => bnd ((decide (a79 ≥ 0))) fun c83 => bnd ((c83 && (decide (((Int.tmod a79 2)) = 0)))) fun c88 => (if (c88 && (impl_has x14_2 x76_l1)) = true then some (.inl ((y29, (bOr .i64 y30 ((impl_only x76_l1))), (W (x76_l1 + 1))))) else some (.inl ((y29, y30, (W (x76_l1 + 1)))))) else some (.inr ((y29, y30))))
noncomputable def impl_rankNext.b0 (x7_1 : (List (List Int))) (x14_2 : Int) (y7 : (List TRankState)) (x68_l0 : Int) : Option (((List TRankState) × Int) ⊕ (List TRankState)) := (if x68_l0 < ((x7_1.length : Int)) then (ix x7_1 x68_l0).bind fun a70 => (loop (fun s : ((List Int) × Int × Int) => impl_rankNext.b1 a70 x14_2 s.1 s.2.1 s.2.2) ((a70, 0, 0))).bind (fun q => impl_rankNext.k4 y7 x68_l0 q.1 q.2) else some (.inr y7))
noncomputable def impl_rankNext.k1 (x7_1 : (List (List Int))) (x14_2 : Int) : Option (List TRankState) := (loop (fun s : ((List TRankState) × Int) => impl_rankNext.b0 x7_1 x14_2 s.1 s.2) (([], 0))).bind (fun q => impl_rankNext.k2 q)
noncomputable def impl_rankNext.k0 (p1 : TRankState) (p0 : TAuto) (p2 : Int) (x7_1 : (List (List Int))) : Option (List TRankState) := (if p1.owing ≠ 0 then (impl_Auto_step p0 p1.owing p2).bind fun a65 => impl_rankNext.k1 x7_1 a65 else impl_rankNext.k1 x7_1 ((W (((impl_only p0.states)) - 1))))
noncomputable def impl_rankNext.k5 (x27_l2 : Int) (x7_6 : (List (List Int))) : Option (((List (List Int)) × Int) ⊕ (List (List Int))) := some (.inl ((x7_6, (W (x27_l2 + 1)))))
noncomputable def impl_rankNext.k6 (x27_l2 : Int) (y52 : (List (List Int))) : Option (((List (List Int)) × Int) ⊕ (List (List Int))) := impl_rankNext.k5 x27_l2 y52
noncomputable def impl_rankNext.k7 (x33_l3 : Int) (y67 : (List (List Int))) : Option (((List (List Int)) × Int) ⊕ (List (List Int))) := some (.inl ((y67, (W (x33_l3 + 1)))))
noncomputable def impl_rankNext.b4 (a29 : Int) (a35 : (List Int)) (y71 : (List (List Int))) (x13_l4 : Int) : Option (((List (List Int)) × Int) ⊕ (List (List Int))) := (if x13_l4 ≤ a29 then (slices_Clone_int_int a35).bind fun a46 => (app 8 a46 ([x13_l4])).bind fun z49 => (app 24 y71 ([z49])).bind fun z51 => some (.inl ((z51, (W (x13_l4 + 1))))) else some (.inr y71))
noncomputable def impl_rankNext.b3 (x7_l2 : (List (List Int))) (a29 : Int) (y57 : (List (List Int))) (x33_l3 : Int) : Option (((List (List Int)) × Int) ⊕ (List (List Int))) := (if x33_l3 < ((x7_l2.length : Int)) then (ix x7_l2 x33_l3).bind fun a35 => (loop (fun s : ((List (List Int)) × Int) => impl_rankNext.b4 a29 a35 s.1 s.2) ((y57, (mn a29 0)))).bind (fun q => impl_rankNext.k7 x33_l3 q) else some (.inr y57))
noncomputable def impl_rankNext.b2 (a25 : (List Int)) (x7_l2 : (List (List Int))) (x27_l2 : Int) : Option (((List (List Int)) × Int) ⊕ (List (List Int))) := (if x27_l2 < ((a25.length : Int)) then (ix a25 x27_l2).bind fun a29 => (loop (fun s : ((List (List Int)) × Int) => impl_rankNext.b3 x7_l2 a29 s.1 s.2) (([], 0))).bind (fun q => impl_rankNext.k6 x27_l2 q) else some (.inr x7_l2))
noncomputable def impl_rankNext (p0 : TAuto) (p1 : TRankState) (p2 : Int) : Option (List TRankState) := (impl_bounds p0 p1 p2).bind fun a25 => (loop (fun s : ((List (List Int)) × Int) => impl_rankNext.b2 a25 s.1 s.2) (([[]], 0))).bind (fun q => impl_rankNext.k0 p1 p0 p2 q)

noncomputable def impl_RankNext (p0 : TAuto) (p1 : TRankState) (p2 : Int) : Option (List TRankState) := (impl_RankOk p0 p1).bind fun a9 => bnd ((!a9)) fun c11 => (if (c11 || (!(impl_inRange p2 0 ((W (p0.letters - 1)))))) = true then some ([]) else (impl_rankNext p0 p1 p2).bind fun a22 => some a22)

noncomputable def laws_eqIntS.k0 : Option Bool := some true
noncomputable def laws_eqIntS.b0 (p0 : (List Int)) (p1 : (List Int)) (x5_l0 : Int) : Option (Int ⊕ (Unit ⊕ Bool)) := (if x5_l0 < ((p0.length : Int)) then (ix p0 x5_l0).bind fun a19 => (ix p1 x5_l0).bind fun a23 => (if a19 ≠ a23 then some (.inr ((.inr false))) else some (.inl ((W (x5_l0 + 1))))) else some (.inr ((.inl (())))))
noncomputable def laws_eqIntS (p0 : (List Int)) (p1 : (List Int)) : Option Bool := (if ((p0.length : Int)) ≠ ((p1.length : Int)) then some false else (loop (fun s : Int => laws_eqIntS.b0 p0 p1 s) 0).bind (Sum.elim (fun q => laws_eqIntS.k0) (fun q => some q)))

noncomputable def laws_eqRankState (p0 : TRankState) (p1 : TRankState) : Option Bool := (laws_eqIntS p0.ranks p1.ranks).bind fun a9 => (if (!a9) = true then some false else (if p0.owing ≠ p1.owing then some false else some true))

noncomputable def laws_eqRankStateS.k0 : Option Bool := some true
noncomputable def laws_eqRankStateS.b0 (p0 : (List TRankState)) (p1 : (List TRankState)) (x5_l0 : Int) : Option (Int ⊕ (Unit ⊕ Bool)) := (if x5_l0 < ((p0.length : Int)) then (ix p0 x5_l0).bind fun a19 => (ix p1 x5_l0).bind fun a23 => (laws_eqRankState a19 a23).bind fun a25 => (if (!a25) = true then some (.inr ((.inr false))) else some (.inl ((W (x5_l0 + 1))))) else some (.inr ((.inl (())))))
noncomputable def laws_eqRankStateS (p0 : (List TRankState)) (p1 : (List TRankState)) : Option Bool := (if ((p0.length : Int)) ≠ ((p1.length : Int)) then some false else (loop (fun s : Int => laws_eqRankStateS.b0 p0 p1 s) 0).bind (Sum.elim (fun q => laws_eqRankStateS.k0) (fun q => some q)))

noncomputable def laws_eqEdge (p0 : TEdge) (p1 : TEdge) : Bool := (if p0.from_ ≠ p1.from_ then false else (if p0.letter ≠ p1.letter then false else (if p0.to_ ≠ p1.to_ then false else (if (!(p0.good == p1.good)) = true then false else true))))

noncomputable def laws_eqEdgeS.k0 : Option Bool := some true
noncomputable def laws_eqEdgeS.b0 (p0 : (List TEdge)) (p1 : (List TEdge)) (x5_l0 : Int) : Option (Int ⊕ (Unit ⊕ Bool)) := (if x5_l0 < ((p0.length : Int)) then (ix p0 x5_l0).bind fun a19 => (ix p1 x5_l0).bind fun a23 => (if (!(laws_eqEdge a19 a23)) = true then some (.inr ((.inr false))) else some (.inl ((W (x5_l0 + 1))))) else some (.inr ((.inl (())))))
noncomputable def laws_eqEdgeS (p0 : (List TEdge)) (p1 : (List TEdge)) : Option Bool := (if ((p0.length : Int)) ≠ ((p1.length : Int)) then some false else (loop (fun s : Int => laws_eqEdgeS.b0 p0 p1 s) 0).bind (Sum.elim (fun q => laws_eqEdgeS.k0) (fun q => some q)))

noncomputable def laws_eqAuto (p0 : TAuto) (p1 : TAuto) : Option Bool := (if p0.letters ≠ p1.letters then some false else (if p0.states ≠ p1.states then some false else (if p0.start ≠ p1.start then some false else (laws_eqEdgeS p0.edges p1.edges).bind fun a24 => (if (!a24) = true then some false else some true))))

noncomputable def laws_markEdgeS.k0 (x1_1 : Int) (y2 : (List TEdge)) : Option (Int × (List TEdge)) := some ((x1_1, y2))
noncomputable def laws_markEdgeS.b0 (y4 : (List TEdge)) (x1_l0 : Int) (x5_l0 : Int) : Option (((List TEdge) × Int × Int) ⊕ (Int × (List TEdge))) := (if x5_l0 < ((y4.length : Int)) then (ck x5_l0 y4.length).bind fun m15 => (ck x5_l0 ((y4.set m15 ((fun q : TEdge => { q with from_ := x1_l0 }) (y4.getD m15 default)))).length).bind fun m22 => (ck x5_l0 ((((y4.set m15 ((fun q : TEdge => { q with from_ := x1_l0 }) (y4.getD m15 default)))).set m22 ((fun q : TEdge => { q with letter := (W (x1_l0 + 1)) }) (((y4.set m15 ((fun q : TEdge => { q with from_ := x1_l0 }) (y4.getD m15 default)))).getD m22 default)))).length).bind fun m29 => (ck x5_l0 ((((((y4.set m15 ((fun q : TEdge => { q with from_ := x1_l0 }) (y4.getD m15 default)))).set m22 ((fun q : TEdge => { q with letter := (W (x1_l0 + 1)) }) (((y4.set m15 ((fun q : TEdge => { q with from_ := x1_l0 }) (y4.getD m15 default)))).getD m22 default)))).set m29 ((fun q : TEdge => { q with to_ := (W (((W (x1_l0 + 1))) + 1)) }) (((((y4.set m15 ((fun q : TEdge => { q with from_ := x1_l0 }) (y4.getD m15 default)))).set m22 ((fun q : TEdge => { q with letter := (W (x1_l0 + 1)) }) (((y4.set m15 ((fun q : TEdge => { q with from_ := x1_l0 }) (y4.getD m15 default)))).getD m22 default)))).getD m29 default)))).length).bind fun m38 => some (.inl (((((((((y4.set m15 ((fun q : TEdge => { q with from_ := x1_l0 }) (y4.getD m15 default)))).set m22 ((fun q : TEdge => { q with letter := (W (x1_l0 + 1)) }) (((y4.set m15 ((fun q : TEdge => { q with from_ := x1_l0 }) (y4.getD m15 default)))).getD m22 default)))).set m29 ((fun q : TEdge => { q with to_ := (W (((W (x1_l0 + 1))) + 1)) }) (((((y4.set m15 ((fun q : TEdge => { q with from_ := x1_l0 }) (y4.getD m15 default)))).set m22 ((fun q : TEdge => { q with letter := (W (x1_l0 + 1)) }) (((y4.set m15 ((fun q : TEdge => { q with from_ := x1_l0 }) (y4.getD m15 default)))).getD m22 default)))).getD m29 default)))).set m38 ((fun q : TEdge => { q with good := (decide (((Int.tmod ((W (((W (((W (x1_l0 + 1))) + 1))) + 1))) 3)) = 0)) }) (((((((y4.set m15 ((fun q : TEdge => { q with from_ := x1_l0 }) (y4.getD m15 default)))).set m22 ((fun q : TEdge => { q with letter := (W (x1_l0 + 1)) }) (((y4.set m15 ((fun q : TEdge => { q with from_ := x1_l0 }) (y4.getD m15 default)))).getD m22 default)))).set m29 ((fun q : TEdge => { q with to_ := (W (((W (x1_l0 + 1))) + 1)) }) (((((y4.set m15 ((fun q : TEdge => { q with from_ := x1_l0 }) (y4.getD m15 default)))).set m22 ((fun q : TEdge => { q with letter := (W (x1_l0 + 1)) }) (((y4.set m15 ((fun q : TEdge => { q with from_ := x1_l0 }) (y4.getD m15 default)))).getD m22 default)))).getD m29 default)))).getD m38 default))), (W (((W (((W (((W (x1_l0 + 1))) + 1))) + 1))) + 1)), (W (x5_l0 + 1))))) else some (.inr ((x1_l0, y4))))
noncomputable def laws_markEdgeS (p0 : (List TEdge)) (p1 : Int) : Option (Int × (List TEdge)) := (loop (fun s : ((List TEdge) × Int × Int) => laws_markEdgeS.b0 s.1 s.2.1 s.2.2) ((p0, p1, 0))).bind (fun q => laws_markEdgeS.k0 q.1 q.2)

noncomputable def laws_markAuto (p0 : TAuto) (p1 : Int) : Option (Int × TAuto) := (laws_markEdgeS p0.edges p1).bind fun a8 => some ((a8.1, (TAuto.mk p0.letters p0.states p0.start a8.2)))

noncomputable def laws_markIntS.k0 (x1_1 : Int) (y2 : (List Int)) : Option (Int × (List Int)) := some ((x1_1, y2))
noncomputable def laws_markIntS.b0 (y4 : (List Int)) (x1_l0 : Int) (x5_l0 : Int) : Option (((List Int) × Int × Int) ⊕ (Int × (List Int))) := (if x5_l0 < ((y4.length : Int)) then (ck x5_l0 y4.length).bind fun m15 => some (.inl (((y4.set m15 x1_l0), (W (x1_l0 + 1)), (W (x5_l0 + 1))))) else some (.inr ((x1_l0, y4))))
noncomputable def laws_markIntS (p0 : (List Int)) (p1 : Int) : Option (Int × (List Int)) := (loop (fun s : ((List Int) × Int × Int) => laws_markIntS.b0 s.1 s.2.1 s.2.2) ((p0, p1, 0))).bind (fun q => laws_markIntS.k0 q.1 q.2)

noncomputable def laws_markRankState (p0 : TRankState) (p1 : Int) : Option (Int × TRankState) := (laws_markIntS p0.ranks p1).bind fun a8 => some ((a8.1, (TRankState.mk a8.2 p0.owing)))

noncomputable def laws_heldIntS.k0 (x1_1 : Int) : Option Int := some x1_1
noncomputable def laws_heldIntS.b0 (p0 : (List Int)) (x1_l0 : Int) (x5_l0 : Int) : Option ((Int × Int) ⊕ (Int ⊕ Int)) := (if x5_l0 < ((p0.length : Int)) then (ix p0 x5_l0).bind fun a14 => (if a14 ≠ x1_l0 then some (.inr ((.inr ((-1))))) else some (.inl (((W (x1_l0 + 1)), (W (x5_l0 + 1)))))) else some (.inr ((.inl x1_l0))))
noncomputable def laws_heldIntS (p0 : (List Int)) (p1 : Int) : Option Int := (loop (fun s : (Int × Int) => laws_heldIntS.b0 p0 s.1 s.2) ((p1, 0))).bind (Sum.elim (fun q => laws_heldIntS.k0 q) (fun q => some q))

noncomputable def laws_heldRankStateS.k0 (x1_1 : Int) : Option Int := some x1_1
noncomputable def laws_heldRankStateS.b0 (p0 : (List TRankState)) (x1_l0 : Int) (x5_l0 : Int) : Option ((Int × Int) ⊕ (Int ⊕ Int)) := (if x5_l0 < ((p0.length : Int)) then (ix p0 x5_l0).bind fun a14 => (laws_heldIntS a14.ranks x1_l0).bind fun a18 => (if a18 < 0 then some (.inr ((.inr ((-1))))) else (ix p0 x5_l0).bind fun a23 => (if a23.owing ≠ a18 then some (.inr ((.inr ((-1))))) else some (.inl (((W (a18 + 1)), (W (x5_l0 + 1))))))) else some (.inr ((.inl x1_l0))))
noncomputable def laws_heldRankStateS (p0 : (List TRankState)) (p1 : Int) : Option Int := (loop (fun s : (Int × Int) => laws_heldRankStateS.b0 p0 s.1 s.2) ((p1, 0))).bind (Sum.elim (fun q => laws_heldRankStateS.k0 q) (fun q => some q))


end Go.Proofs.Ytllpbgcajgbfbaa
