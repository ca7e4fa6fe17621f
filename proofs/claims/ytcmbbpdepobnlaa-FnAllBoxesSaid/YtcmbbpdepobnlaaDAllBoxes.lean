/- Plain functions that the program's functions come to: FnAllBoxes. -/
import Derived.Test.YtcmbbpdepobnlaaTy
namespace Go.Proofs.Ytcmbbpdepobnlaa
open Go Go.RowKit E
set_option linter.unusedVariables false
noncomputable def laws_big (p0 : (List Int)) : Bool := (decide (((p0.length : Int)) > 1048576))

noncomputable def spec_l1New.k0 (p0 : (List Int)) (x3_1 : Int) : Option Tl1Cur := some ((Tl1Cur.mk p0 0 x3_1))
noncomputable def spec_l1New.b0 (p0 : (List Int)) (x3_l0 : Int) (x4_l0 : Int) : Option ((Int × Int) ⊕ Int) := bnd ((decide (x4_l0 < ((p0.length : Int))))) fun c12 => (if (c12 && (decide (x4_l0 < 4000))) = true then (ix p0 x4_l0).bind fun a22 => some (.inl (((bAnd .i64 ((W (((W (((W (x3_l0 * 131))) + ((IntKind.i64.wrap a22))))) + 7))) 1073741823), (W (x4_l0 + 1))))) else some (.inr x3_l0))
noncomputable def spec_l1New (p0 : (List Int)) : Option Tl1Cur := (loop (fun s : (Int × Int) => spec_l1New.b0 p0 s.1 s.2) (((W (10277 + ((p0.length : Int)))), 0))).bind (fun q => spec_l1New.k0 p0 q)

noncomputable def spec_l1Byte (p0 : Tl1Cur) : Option (Int × Tl1Cur) := (if p0.i < ((p0.b.length : Int)) then (ix p0.b p0.i).bind fun a44 => some (((bAnd .i64 ((W (((bAnd .i64 ((bXor .i64 ((shr .i64 ((W (((W (p0.h * 6364136223846793005))) + 1442695040888963407))) 33)) ((shr .i64 ((W (((W (p0.h * 6364136223846793005))) + 1442695040888963407))) 45)))) 255)) + ((IntKind.i64.wrap a44))))) 255), (Tl1Cur.mk p0.b ((W (p0.i + 1))) ((W (((W (p0.h * 6364136223846793005))) + 1442695040888963407)))))) else some (((bAnd .i64 ((bXor .i64 ((shr .i64 ((W (((W (p0.h * 6364136223846793005))) + 1442695040888963407))) 33)) ((shr .i64 ((W (((W (p0.h * 6364136223846793005))) + 1442695040888963407))) 45)))) 255), (Tl1Cur.mk p0.b p0.i ((W (((W (p0.h * 6364136223846793005))) + 1442695040888963407)))))))

noncomputable def spec_l1Below (p0 : Tl1Cur) (p1 : Int) : Option (Int × Tl1Cur) := (if p1 ≤ 0 then some ((0, p0)) else (if p1 ≤ 256 then (spec_l1Byte p0).bind fun a14 => (chk (decide (p1 ≠ 0))).bind fun u5 => some (((Int.tmod a14.1 p1), a14.2)) else (spec_l1Byte p0).bind fun a18 => (spec_l1Byte a18.2).bind fun a20 => (spec_l1Byte a20.2).bind fun a22 => (spec_l1Byte a22.2).bind fun a24 => (chk (decide (p1 ≠ 0))).bind fun u10 => some (((Int.tmod ((W (((W (((W (((W (a18.1 * 16777216))) + ((W (a20.1 * 65536)))))) + ((W (a22.1 * 256)))))) + a24.1))) p1), a24.2))))

noncomputable def spec_l1Once (p0 : Tl1Cur) (p1 : Int) : Option (Bool × Tl1Cur) := (spec_l1Below p0 p1).bind fun a7 => some (((decide (a7.1 = 0)), a7.2))

noncomputable def spec_l4DrawEdges.k0 (y5 : (List TEdge)) (y8 : (List Int)) (y9 : Int) (y10 : Int) : Option ((List TEdge) × Tl1Cur) := some ((y5, (Tl1Cur.mk y8 y9 y10)))
noncomputable def spec_l4DrawEdges.b0 (p3 : Int) (p2 : Int) (p1 : Int) (y12 : (List Int)) (y13 : Int) (y14 : Int) (y15 : (List TEdge)) (x10_l0 : Int) : Option (((List Int) × Int × Int × (List TEdge) × Int) ⊕ ((List TEdge) × (List Int) × Int × Int)) := (if x10_l0 < p3 then (spec_l1Below ((Tl1Cur.mk y12 y13 y14)) p2).bind fun a20 => (spec_l1Below a20.2 p1).bind fun a23 => (spec_l1Below a23.2 p2).bind fun a26 => (spec_l1Once a26.2 3).bind fun a28 => (app 32 y15 ([(TEdge.mk a20.1 a23.1 a26.1 a28.1)])).bind fun z31 => some (.inl ((a28.2.b, a28.2.i, a28.2.h, z31, (W (x10_l0 + 1))))) else some (.inr ((y15, y12, y13, y14))))
noncomputable def spec_l4DrawEdges (p0 : Tl1Cur) (p1 : Int) (p2 : Int) (p3 : Int) : Option ((List TEdge) × Tl1Cur) := (loop (fun s : ((List Int) × Int × Int × (List TEdge) × Int) => spec_l4DrawEdges.b0 p3 p2 p1 s.1 s.2.1 s.2.2.1 s.2.2.2.1 s.2.2.2.2) ((p0.b, p0.i, p0.h, [], 0))).bind (fun q => spec_l4DrawEdges.k0 q.1 q.2.1 q.2.2.1 q.2.2.2)

noncomputable def spec_l1In (p0 : Int) (p1 : Int) (p2 : Int) : Bool := bnd ((decide (p0 ≥ p1))) fun c10 => (c10 && (decide (p0 ≤ p2)))

noncomputable def spec_SetOk (p0 : Int) : Bool := (spec_l1In p0 0 2147483647)

noncomputable def spec_SetIn (p0 : Int) (p1 : Int) : Bool := bnd ((spec_SetOk p0)) fun c7 => bnd ((c7 && (spec_SetOk p1))) fun c11 => (c11 && (decide (((bAnd .i64 p0 p1)) = p0)))

noncomputable def spec_l4State (p0 : Int) (p1 : Int) : Bool := (spec_l1In p0 0 ((W (p1 - 1))))

noncomputable def spec_l4Less (p0 : TEdge) (p1 : TEdge) : Bool := (if p0.from_ ≠ p1.from_ then (decide (p0.from_ < p1.from_)) else (if p0.letter ≠ p1.letter then (decide (p0.letter < p1.letter)) else (decide (p0.to_ < p1.to_))))

noncomputable def spec_AutoOk.k0 : Option Bool := some true
noncomputable def spec_AutoOk.b0 (p0 : TAuto) (x3_l0 : Int) : Option (Int ⊕ (Unit ⊕ Bool)) := (if x3_l0 < ((p0.edges.length : Int)) then (ix p0.edges x3_l0).bind fun a41 => bnd ((!(spec_l4State a41.from_ p0.states))) fun c49 => bnd ((c49 || (!(spec_l4State a41.to_ p0.states)))) fun c57 => bnd ((c57 || (!(spec_l1In a41.letter 0 ((W (p0.letters - 1))))))) fun c66 => bnd ((decide (x3_l0 > 0))) fun c69 => (whenO ((!c66) && c69) (ix p0.edges ((W (x3_l0 - 1))))).bind fun a74 => (if (c66 || (c69 && (!(spec_l4Less a74 a41)))) = true then some (.inr ((.inr false))) else some (.inl ((W (x3_l0 + 1))))) else some (.inr ((.inl (())))))
noncomputable def spec_AutoOk (p0 : TAuto) : Option Bool := bnd ((!(spec_l1In p0.letters 1 8))) fun c9 => bnd ((c9 || (!(spec_l1In p0.states 0 31)))) fun c15 => (whenO (!c15) (chk (decide (0 ≤ p0.states)))).bind fun u1 => bnd ((c15 || (!(spec_SetIn p0.start ((W (((shl .i64 1 p0.states)) - 1))))))) fun c25 => (if (c25 || (decide (((p0.edges.length : Int)) > 2000))) = true then some false else (loop (fun s : Int => spec_AutoOk.b0 p0 s) 0).bind (Sum.elim (fun q => spec_AutoOk.k0) (fun q => some q)))

noncomputable def spec_l1Max (p0 : Int) (p1 : Int) : Int := (if p0 > p1 then p0 else p1)

noncomputable def spec_AutoMake.k1 (y21 : Int) (y22 : Int) (y23 : Int) (y24 : (List TEdge)) : Option (TAuto × Bool) := some (((TAuto.mk y21 y22 y23 y24), true))
noncomputable def spec_AutoMake.b0 (y20 : (List Int)) (p1 : Int) (p0 : Int) (y29 : Int) (y30 : Int) (y31 : Int) (y32 : (List TEdge)) (x16_l0 : Int) : Option ((Int × Int × Int × (List TEdge) × Int) ⊕ (Int × Int × Int × (List TEdge))) := (if x16_l0 < ((y20.length : Int)) then (ix y20 x16_l0).bind fun a98 => (if a98 > 0 then (chk (decide (p1 ≠ 0))).bind fun u43 => (chk (decide (p0 ≠ 0))).bind fun u44 => (chk (decide (p1 ≠ 0))).bind fun u45 => (chk (decide (p0 ≠ 0))).bind fun u46 => (chk (decide (p1 ≠ 0))).bind fun u47 => (ix y20 x16_l0).bind fun a118 => (app 32 y32 ([(TEdge.mk ((quo .i64 ((quo .i64 x16_l0 p1)) p0)) ((Int.tmod ((quo .i64 x16_l0 p1)) p0)) ((Int.tmod x16_l0 p1)) ((decide (a118 = 2))))])).bind fun z123 => some (.inl ((y29, y30, y31, z123, (W (x16_l0 + 1))))) else some (.inl ((y29, y30, y31, y32, (W (x16_l0 + 1)))))) else some (.inr ((y29, y30, y31, y32))))
noncomputable def spec_AutoMake.k0 (p1 : Int) (p0 : Int) (p2 : Int) (y14 : Int) (y15 : Int) (y16 : Int) (y17 : (List TEdge)) (y20 : (List Int)) : Option (TAuto × Bool) := (loop (fun s : (Int × Int × Int × (List TEdge) × Int) => spec_AutoMake.b0 y20 p1 p0 s.1 s.2.1 s.2.2.1 s.2.2.2.1 s.2.2.2.2) ((p0, p1, p2, [], 0))).bind (fun q => spec_AutoMake.k1 q.1 q.2.1 q.2.2.1 q.2.2.2)
noncomputable def spec_AutoMake.k2 (y58 : (List Int)) (a44 : TEdge) (p0 : Int) (p1 : Int) (y52 : Int) (y53 : Int) (y54 : Int) (y55 : (List TEdge)) (x12_l1 : Int) (x15_3 : Int) : Option ((Int × Int × Int × (List TEdge) × (List Int) × Int) ⊕ ((Int × Int × Int × (List TEdge) × (List Int)) ⊕ (TAuto × Bool))) := (ix y58 ((W (((W (((W (((W (a44.from_ * p0))) + a44.letter))) * p1))) + a44.to_)))).bind fun a85 => (ck ((W (((W (((W (((W (a44.from_ * p0))) + a44.letter))) * p1))) + a44.to_))) y58.length).bind fun m89 => some (.inl ((y52, y53, y54, y55, (y58.set m89 ((spec_l1Max a85 x15_3))), (W (x12_l1 + 1)))))
noncomputable def spec_AutoMake.b1 (p3 : (List TEdge)) (p1 : Int) (p0 : Int) (y52 : Int) (y53 : Int) (y54 : Int) (y55 : (List TEdge)) (y58 : (List Int)) (x12_l1 : Int) : Option ((Int × Int × Int × (List TEdge) × (List Int) × Int) ⊕ ((Int × Int × Int × (List TEdge) × (List Int)) ⊕ (TAuto × Bool))) := (if x12_l1 < ((p3.length : Int)) then (ix p3 x12_l1).bind fun a44 => bnd ((!(spec_l4State a44.from_ p1))) fun c51 => bnd ((c51 || (!(spec_l4State a44.to_ p1)))) fun c58 => (if (c58 || (!(spec_l1In a44.letter 0 ((W (p0 - 1)))))) = true then some (.inr ((.inr (((TAuto.mk 0 0 0 ([])), false))))) else (if a44.good = true then spec_AutoMake.k2 y58 a44 p0 p1 y52 y53 y54 y55 x12_l1 2 else spec_AutoMake.k2 y58 a44 p0 p1 y52 y53 y54 y55 x12_l1 1)) else some (.inr ((.inl ((y52, y53, y54, y55, y58))))))
noncomputable def spec_AutoMake (p0 : Int) (p1 : Int) (p2 : Int) (p3 : (List TEdge)) : Option (TAuto × Bool) := (spec_AutoOk ((TAuto.mk p0 p1 p2 ([])))).bind fun a22 => bnd ((!a22)) fun c24 => (if (c24 || (decide (((p3.length : Int)) > 2000))) = true then some (((TAuto.mk 0 0 0 ([])), false)) else (mk 8 (0 : Int) ((W (((W (p1 * p0))) * p1)))).bind fun z35 => (loop (fun s : (Int × Int × Int × (List TEdge) × (List Int) × Int) => spec_AutoMake.b1 p3 p1 p0 s.1 s.2.1 s.2.2.1 s.2.2.2.1 s.2.2.2.2.1 s.2.2.2.2.2) ((0, 0, 0, [], z35, 0))).bind (Sum.elim (fun q => spec_AutoMake.k0 p1 p0 p2 q.1 q.2.1 q.2.2.1 q.2.2.2.1 q.2.2.2.2) (fun q => some q)))

noncomputable def spec_l4DrawRight (p0 : Tl1Cur) (p1 : Int) (p2 : Int) : Option (TAuto × Tl1Cur) := (spec_l1Below p0 p2).bind fun a12 => (chk (decide (0 ≤ ((W (1 + a12.1)))))).bind fun u6 => (spec_l1Below a12.2 ((shl .i64 1 ((W (1 + a12.1)))))).bind fun a20 => (spec_l1Below a20.2 ((W (((W (2 * ((W (1 + a12.1)))))) * p1)))).bind fun a30 => (spec_l4DrawEdges a30.2 p1 ((W (1 + a12.1))) ((W (1 + a30.1)))).bind fun a32 => (spec_AutoMake p1 ((W (1 + a12.1))) ((bOr .i64 1 a20.1)) a32.1).bind fun a33 => some (((TAuto.mk a33.1.letters a33.1.states a33.1.start a33.1.edges), a32.2))

noncomputable def spec_l1PickInt (p0 : Tl1Cur) (p1 : (List Int)) : Option (Int × Tl1Cur) := (spec_l1Below p0 ((p1.length : Int))).bind fun a9 => (ix p1 a9.1).bind fun a10 => some ((a10, a9.2))

noncomputable def spec_l4DrawAuto.k0 (y13 : Int) (y14 : Int) (y15 : Int) (y16 : (List TEdge)) (y19 : (List Int)) (y20 : Int) (y21 : Int) : Option (TAuto × Tl1Cur) := some (((TAuto.mk y13 y14 y15 y16), (Tl1Cur.mk y19 y20 y21)))
noncomputable def spec_l4DrawAuto (p0 : Tl1Cur) (p1 : Int) : Option (TAuto × Tl1Cur) := (spec_l1PickInt p0 ([1, 2, 2, 2, 3, 4])).bind fun a9 => (spec_l4DrawRight a9.2 a9.1 p1).bind fun a11 => (spec_l1Below a11.2 30).bind fun a13 => (if a13.1 = 0 then (spec_l1PickInt a13.2 ([0, 8, 9])).bind fun a18 => spec_l4DrawAuto.k0 a18.1 a11.1.states a11.1.start a11.1.edges a18.2.b a18.2.i a18.2.h else (if a13.1 = 1 then (spec_l1PickInt a13.2 ([0, (-1), 31, 32])).bind fun a24 => spec_l4DrawAuto.k0 a11.1.letters a24.1 a11.1.start a11.1.edges a24.2.b a24.2.i a24.2.h else (if a13.1 = 2 then (spec_l1PickInt a13.2 ([(-1), 0, 1048576])).bind fun a30 => spec_l4DrawAuto.k0 a11.1.letters a11.1.states a30.1 a11.1.edges a30.2.b a30.2.i a30.2.h else (if a13.1 = 3 then (app 32 a11.1.edges ([(TEdge.mk 0 0 0 false)])).bind fun z38 => spec_l4DrawAuto.k0 a11.1.letters a11.1.states a11.1.start z38 a13.2.b a13.2.i a13.2.h else (if a13.1 = 4 then (app 32 a11.1.edges ([(TEdge.mk a11.1.states 0 0 false)])).bind fun z48 => spec_l4DrawAuto.k0 a11.1.letters a11.1.states a11.1.start z48 a13.2.b a13.2.i a13.2.h else spec_l4DrawAuto.k0 a11.1.letters a11.1.states a11.1.start a11.1.edges a13.2.b a13.2.i a13.2.h)))))

noncomputable def spec_l14DrawAuto (p0 : Tl1Cur) : Option (TAuto × Tl1Cur) := (spec_l4DrawRight p0 2 3).bind fun a5 => (spec_l1Once a5.2 12).bind fun a7 => (if a7.1 = true then (spec_l4DrawAuto a7.2 6).bind fun a9 => some ((a9.1, a9.2)) else some ((a5.1, a7.2)))

noncomputable def spec_DrawBoxesOf (p0 : (List Int)) : Option TAuto := (spec_l1New p0).bind fun a5 => (spec_l1Once a5 6).bind fun a7 => (if a7.1 = true then (spec_l4DrawRight a7.2 3 4).bind fun a9 => some a9.1 else (spec_l14DrawAuto a7.2).bind fun a11 => some a11.1)

noncomputable def impl_inRange (p0 : Int) (p1 : Int) (p2 : Int) : Bool := bnd ((decide (p0 ≥ p1))) fun c10 => (c10 && (decide (p0 ≤ p2)))

noncomputable def impl_isBoxed (p0 : Int) : Bool := (impl_inRange p0 1 4)

noncomputable def impl_isLetters (p0 : Int) : Bool := (impl_inRange p0 1 8)

noncomputable def impl_SetOk (p0 : Int) : Bool := (impl_inRange p0 0 2147483647)

noncomputable def impl_only (p0 : Int) : Int := (shl .i64 1 ((IntKind.u64.wrap p0)))

noncomputable def impl_headOk (p0 : Int) (p1 : Int) (p2 : Int) : Bool := bnd ((impl_isLetters p0)) fun c9 => bnd ((c9 && (impl_inRange p1 0 31))) fun c13 => bnd ((c13 && (impl_SetOk p2))) fun c17 => (c17 && (decide (p2 < ((impl_only p1)))))

noncomputable def cmp_isNaN_int (p0 : Int) : Bool := (decide (p0 ≠ p0))

noncomputable def cmp_Compare_int (p0 : Int) (p1 : Int) : Int := (if (cmp_isNaN_int p0) = true then (if (cmp_isNaN_int p1) = true then 0 else (-1)) else (if (cmp_isNaN_int p1) = true then 1 else (if p0 < p1 then (-1) else (if p0 > p1 then 1 else 0))))

noncomputable def cmp_Or_int.k0 : Option Int := some 0
noncomputable def cmp_Or_int.b0 (p0 : (List Int)) (x8_l0 : Int) : Option (Int ⊕ (Unit ⊕ Int)) := (if x8_l0 < ((p0.length : Int)) then (ix p0 x8_l0).bind fun a10 => (if a10 ≠ 0 then some (.inr ((.inr a10))) else some (.inl ((W (x8_l0 + 1))))) else some (.inr ((.inl (())))))
noncomputable def cmp_Or_int (p0 : (List Int)) : Option Int := (loop (fun s : Int => cmp_Or_int.b0 p0 s) 0).bind (Sum.elim (fun q => cmp_Or_int.k0) (fun q => some q))

noncomputable def impl_compareEdges (p0 : TEdge) (p1 : TEdge) : Option Int := (cmp_Or_int ([(cmp_Compare_int p0.from_ p1.from_), (cmp_Compare_int p0.letter p1.letter), (cmp_Compare_int p0.to_ p1.to_)])).bind fun a21 => some a21

noncomputable def impl_AutoOk.k0 : Option Bool := some true
noncomputable def impl_AutoOk.b0 (p0 : TAuto) (x22_l0 : Int) : Option (Int ⊕ (Unit ⊕ Bool)) := (if x22_l0 < ((p0.edges.length : Int)) then (ix p0.edges x22_l0).bind fun a25 => bnd ((!(impl_inRange a25.from_ 0 ((W (p0.states - 1)))))) fun c34 => bnd ((c34 || (!(impl_inRange a25.to_ 0 ((W (p0.states - 1))))))) fun c43 => (if (c43 || (!(impl_inRange a25.letter 0 ((W (p0.letters - 1)))))) = true then some (.inr ((.inr false))) else bnd ((decide (x22_l0 > 0))) fun c54 => (whenO c54 (ix p0.edges ((W (x22_l0 - 1))))).bind fun a59 => (whenO c54 (impl_compareEdges a59 a25)).bind fun a62 => (if (c54 && (decide (a62 ≥ 0))) = true then some (.inr ((.inr false))) else some (.inl ((W (x22_l0 + 1)))))) else some (.inr ((.inl (())))))
noncomputable def impl_AutoOk (p0 : TAuto) : Option Bool := bnd ((!(impl_headOk p0.letters p0.states p0.start))) fun c13 => (if (c13 || (decide (((p0.edges.length : Int)) > 2000))) = true then some false else (loop (fun s : Int => impl_AutoOk.b0 p0 s) 0).bind (Sum.elim (fun q => impl_AutoOk.k0) (fun q => some q)))

noncomputable def impl_boxOne.k0 (y4 : (List Int)) : Option (List Int) := some y4
noncomputable def impl_boxOne.b0 (p0 : Int) (y6 : (List Int)) (x10_l0 : Int) : Option (((List Int) × Int) ⊕ (List Int)) := (if x10_l0 < p0 then (ck ((W (((W (x10_l0 * p0))) + x10_l0))) y6.length).bind fun m19 => some (.inl (((y6.set m19 1), (W (x10_l0 + 1))))) else some (.inr y6))
noncomputable def impl_boxOne (p0 : Int) : Option (List Int) := (mk 8 (0 : Int) ((W (p0 * p0)))).bind fun z8 => (loop (fun s : ((List Int) × Int) => impl_boxOne.b0 p0 s.1 s.2) ((z8, 0))).bind (fun q => impl_boxOne.k0 q)

noncomputable def slices_Equal_int_int.k0 : Option Bool := some true
noncomputable def slices_Equal_int_int.b0 (p0 : (List Int)) (p1 : (List Int)) (x13_l0 : Int) : Option (Int ⊕ (Unit ⊕ Bool)) := (if x13_l0 < ((p0.length : Int)) then (ix p0 x13_l0).bind fun a18 => (ix p1 x13_l0).bind fun a22 => (if a18 ≠ a22 then some (.inr ((.inr false))) else some (.inl ((W (x13_l0 + 1))))) else some (.inr ((.inl (())))))
noncomputable def slices_Equal_int_int (p0 : (List Int)) (p1 : (List Int)) : Option Bool := (if ((p0.length : Int)) ≠ ((p1.length : Int)) then some false else (loop (fun s : Int => slices_Equal_int_int.b0 p0 p1 s) 0).bind (Sum.elim (fun q => slices_Equal_int_int.k0) (fun q => some q)))

noncomputable def impl_twins_1_1 (p0 : Ttwin) (p1 : Ttwin) : Option Bool := (slices_Equal_int_int p1.a p0.a).bind fun a8 => (whenO a8 (slices_Equal_int_int p1.b p0.b)).bind fun a14 => some ((a8 && a14))

noncomputable def slices_IndexFunc_impl_twin_impl_twin.k0 : Option Int := some ((-1))
noncomputable def slices_IndexFunc_impl_twin_impl_twin.b0 (p0 : (List Ttwin)) (g1 : (Ttwin → Option Bool)) (x8_l0 : Int) : Option (Int ⊕ (Unit ⊕ Int)) := (if x8_l0 < ((p0.length : Int)) then (ix p0 x8_l0).bind fun a14 => (g1 a14).bind fun a16 => (if a16 = true then some (.inr ((.inr x8_l0))) else some (.inl ((W (x8_l0 + 1))))) else some (.inr ((.inl (())))))
noncomputable def slices_IndexFunc_impl_twin_impl_twin (p0 : (List Ttwin)) (g1 : (Ttwin → Option Bool)) : Option Int := (loop (fun s : Int => slices_IndexFunc_impl_twin_impl_twin.b0 p0 g1 s) 0).bind (Sum.elim (fun q => slices_IndexFunc_impl_twin_impl_twin.k0) (fun q => some q))

noncomputable def slices_ContainsFunc_impl_twin_impl_twin (p0 : (List Ttwin)) (g1 : (Ttwin → Option Bool)) : Option Bool := (slices_IndexFunc_impl_twin_impl_twin p0 g1).bind fun a7 => some ((decide (a7 ≥ 0)))

noncomputable def impl_twins_1 (p0 : Ttwin) (p1 : (List Ttwin)) : Option Bool := (slices_ContainsFunc_impl_twin_impl_twin p1 ((fun q0 => impl_twins_1_1 q0 p0))).bind fun a6 => some a6

noncomputable def impl_boxLetter.k0 (y4 : (List Int)) : Option (List Int) := some y4
noncomputable def impl_boxLetter.b0 (p0 : TAuto) (p1 : Int) (y6 : (List Int)) (x17_l0 : Int) : Option (((List Int) × Int) ⊕ (List Int)) := (if x17_l0 < ((p0.edges.length : Int)) then (ix p0.edges x17_l0).bind fun a19 => (if a19.letter ≠ p1 then some (.inl ((y6, (W (x17_l0 + 1))))) else (ck ((W (((W (a19.from_ * p0.states))) + a19.to_))) y6.length).bind fun m34 => (if a19.good = true then (ck ((W (((W (a19.from_ * p0.states))) + a19.to_))) ((y6.set m34 1)).length).bind fun m46 => some (.inl (((((y6.set m34 1)).set m46 2), (W (x17_l0 + 1))))) else some (.inl (((y6.set m34 1), (W (x17_l0 + 1))))))) else some (.inr y6))
noncomputable def impl_boxLetter (p0 : TAuto) (p1 : Int) : Option (List Int) := (mk 8 (0 : Int) ((W (p0.states * p0.states)))).bind fun z13 => (loop (fun s : ((List Int) × Int) => impl_boxLetter.b0 p0 p1 s.1 s.2) ((z13, 0))).bind (fun q => impl_boxLetter.k0 q)

noncomputable def impl_boxMul.k0 (y4 : (List Int)) : Option (List Int) := some y4
noncomputable def impl_boxMul.k1 (x16_l0 : Int) (y14 : (List Int)) : Option (((List Int) × Int) ⊕ (List Int)) := some (.inl ((y14, (W (x16_l0 + 1)))))
noncomputable def impl_boxMul.k2 (x20_l1 : Int) (y24 : (List Int)) : Option (((List Int) × Int) ⊕ (List Int)) := some (.inl ((y24, (W (x20_l1 + 1)))))
noncomputable def impl_boxMul.b2 (p0 : Int) (p2 : (List Int)) (x20_l1 : Int) (x16_l0 : Int) (p1 : (List Int)) (y27 : (List Int)) (x33_l2 : Int) : Option (((List Int) × Int) ⊕ (List Int)) := (if x33_l2 < p0 then (ix p2 ((W (((W (x20_l1 * p0))) + x33_l2)))).bind fun a42 => (if a42 ≠ 0 then (ix y27 ((W (((W (x16_l0 * p0))) + x33_l2)))).bind fun a57 => (ix p1 ((W (((W (x16_l0 * p0))) + x20_l1)))).bind fun a65 => (ix p2 ((W (((W (x20_l1 * p0))) + x33_l2)))).bind fun a73 => (ck ((W (((W (x16_l0 * p0))) + x33_l2))) y27.length).bind fun m76 => some (.inl (((y27.set m76 ((mx ((mx a57 a65)) a73))), (W (x33_l2 + 1))))) else some (.inl ((y27, (W (x33_l2 + 1)))))) else some (.inr y27))
noncomputable def impl_boxMul.b1 (p0 : Int) (p1 : (List Int)) (x16_l0 : Int) (p2 : (List Int)) (y16 : (List Int)) (x20_l1 : Int) : Option (((List Int) × Int) ⊕ (List Int)) := (if x20_l1 < p0 then (ix p1 ((W (((W (x16_l0 * p0))) + x20_l1)))).bind fun a29 => (if a29 = 0 then impl_boxMul.k2 x20_l1 y16 else (loop (fun s : ((List Int) × Int) => impl_boxMul.b2 p0 p2 x20_l1 x16_l0 p1 s.1 s.2) ((y16, 0))).bind (fun q => impl_boxMul.k2 x20_l1 q)) else some (.inr y16))
noncomputable def impl_boxMul.b0 (p0 : Int) (p1 : (List Int)) (p2 : (List Int)) (y6 : (List Int)) (x16_l0 : Int) : Option (((List Int) × Int) ⊕ (List Int)) := (if x16_l0 < p0 then (loop (fun s : ((List Int) × Int) => impl_boxMul.b1 p0 p1 x16_l0 p2 s.1 s.2) ((y6, 0))).bind (fun q => impl_boxMul.k1 x16_l0 q) else some (.inr y6))
noncomputable def impl_boxMul (p0 : Int) (p1 : (List Int)) (p2 : (List Int)) : Option (List Int) := (mk 8 (0 : Int) ((W (p0 * p0)))).bind fun z14 => (loop (fun s : ((List Int) × Int) => impl_boxMul.b0 p0 p1 p2 s.1 s.2) ((z14, 0))).bind (fun q => impl_boxMul.k0 q)

noncomputable def slices_Clone_int_int (p0 : (List Int)) : Option (List Int) := (if p0 = [] then some ([]) else (app 8 ([]) p0).bind fun z7 => some z7)

noncomputable def impl_twins.k0 (y2402 : (List Ttwin)) : Option ((List Ttwin) × Bool) := some ((y2402, true))
noncomputable def impl_twins.k1 (x8_l0 : Int) (y2417 : (List Ttwin)) : Option (((List Ttwin) × Int) ⊕ ((List Ttwin) ⊕ ((List Ttwin) × Bool))) := some (.inl ((y2417, (W (x8_l0 + 1)))))
noncomputable def impl_twins.b1 (p0 : TAuto) (x8_l0 : Int) (p1 : TAuto) (y2421 : (List Ttwin)) (x29_l1 : Int) : Option (((List Ttwin) × Int) ⊕ ((List Ttwin) ⊕ ((List Ttwin) × Bool))) := (if x29_l1 < p0.letters then (ix y2421 x8_l0).bind fun a34 => (impl_boxLetter p0 x29_l1).bind fun a42 => (impl_boxMul p0.states a34.a a42).bind fun a43 => (impl_boxLetter p1 x29_l1).bind fun a50 => (impl_boxMul p1.states a34.b a50).bind fun a51 => (impl_twins_1 ((Ttwin.mk ([]) a43 a51)) y2421).bind fun a55 => (if a55 = true then some (.inl ((y2421, (W (x29_l1 + 1))))) else (slices_Clone_int_int a34.word).bind fun a58 => (app 8 a58 ([x29_l1])).bind fun z61 => bnd ((decide (((y2421.length : Int)) = 150))) fun c66 => (if (c66 || (decide (((z61.length : Int)) > 40))) = true then some (.inr ((.inr (([], false))))) else (app 72 y2421 ([(Ttwin.mk z61 a43 a51)])).bind fun z75 => some (.inl ((z75, (W (x29_l1 + 1))))))) else some (.inr ((.inl y2421))))
noncomputable def impl_twins.b0 (p0 : TAuto) (p1 : TAuto) (y2407 : (List Ttwin)) (x8_l0 : Int) : Option (((List Ttwin) × Int) ⊕ ((List Ttwin) ⊕ ((List Ttwin) × Bool))) := (if x8_l0 < ((y2407.length : Int)) then (loop (fun s : ((List Ttwin) × Int) => impl_twins.b1 p0 x8_l0 p1 s.1 s.2) ((y2407, 0))).bind (Sum.elim (fun q => impl_twins.k1 x8_l0 q) (fun q => some (.inr ((.inr q))))) else some (.inr ((.inl y2407))))
noncomputable def impl_twins (p0 : TAuto) (p1 : TAuto) : Option ((List Ttwin) × Bool) := (impl_boxOne p0.states).bind fun a14 => (impl_boxOne p1.states).bind fun a17 => (loop (fun s : ((List Ttwin) × Int) => impl_twins.b0 p0 p1 s.1 s.2) (([(Ttwin.mk ([]) a14 a17)], 0))).bind (Sum.elim (fun q => impl_twins.k0 q) (fun q => some q))

noncomputable def impl_BoxesOf.k0 (y4 : (List TBoxed)) : Option ((List TBoxed) × Bool) := some ((y4, true))
noncomputable def impl_BoxesOf.b0 (a21 : ((List Ttwin) × Bool)) (y9 : (List TBoxed)) (x28_l0 : Int) : Option (((List TBoxed) × Int) ⊕ (List TBoxed)) := (if x28_l0 < ((a21.1.length : Int)) then (ix a21.1 x28_l0).bind fun a30 => (app 48 y9 ([(TBoxed.mk a30.word a30.a)])).bind fun z39 => some (.inl ((z39, (W (x28_l0 + 1))))) else some (.inr y9))
noncomputable def impl_BoxesOf (p0 : TAuto) : Option ((List TBoxed) × Bool) := bnd ((!(impl_isBoxed p0.states))) fun c13 => (whenO (!c13) (impl_AutoOk p0)).bind fun a15 => (if (c13 || (!a15)) = true then some (([], false)) else (impl_twins p0 p0).bind fun a21 => (if (!a21.2) = true then some (([], false)) else (loop (fun s : ((List TBoxed) × Int) => impl_BoxesOf.b0 a21 s.1 s.2) (([], 0))).bind (fun q => impl_BoxesOf.k0 q)))

noncomputable def spec_l14Right (p0 : TAuto) : Option Bool := (spec_AutoOk p0).bind fun a4 => some ((a4 && (spec_l1In p0.states 1 4)))

noncomputable def spec_BoxOne.k0 (y4 : (List Int)) : Option (List Int) := some y4
noncomputable def spec_BoxOne.b0 (p0 : Int) (y8 : (List Int)) (x4_l0 : Int) : Option (((List Int) × Int) ⊕ (List Int)) := bnd ((decide (x4_l0 < ((W (p0 * p0)))))) fun c11 => (if (c11 && (spec_l1In p0 1 4)) = true then (chk (decide (p0 ≠ 0))).bind fun u18 => (chk (decide (p0 ≠ 0))).bind fun u19 => (if ((quo .i64 x4_l0 p0)) = ((Int.tmod x4_l0 p0)) then (app 8 y8 ([1])).bind fun z26 => some (.inl ((z26, (W (x4_l0 + 1))))) else (app 8 y8 ([0])).bind fun z29 => some (.inl ((z29, (W (x4_l0 + 1)))))) else some (.inr y8))
noncomputable def spec_BoxOne (p0 : Int) : Option (List Int) := (loop (fun s : ((List Int) × Int) => spec_BoxOne.b0 p0 s.1 s.2) (([], 0))).bind (fun q => spec_BoxOne.k0 q)

noncomputable def spec_l14Letter.k0 (y4 : (List Int)) : Option (List Int) := some y4
noncomputable def spec_l14Letter.b0 (p0 : TAuto) (p1 : Int) (y6 : (List Int)) (x6_l0 : Int) : Option (((List Int) × Int) ⊕ (List Int)) := (if x6_l0 < ((p0.edges.length : Int)) then (ix p0.edges x6_l0).bind fun a24 => (if a24.letter = p1 then (ck ((W (((W (a24.from_ * p0.states))) + a24.to_))) y6.length).bind fun m39 => (if a24.good = true then (ck ((W (((W (a24.from_ * p0.states))) + a24.to_))) ((y6.set m39 1)).length).bind fun m51 => some (.inl (((((y6.set m39 1)).set m51 2), (W (x6_l0 + 1))))) else some (.inl (((y6.set m39 1), (W (x6_l0 + 1)))))) else some (.inl ((y6, (W (x6_l0 + 1)))))) else some (.inr y6))
noncomputable def spec_l14Letter (p0 : TAuto) (p1 : Int) : Option (List Int) := (mk 8 (0 : Int) ((W (p0.states * p0.states)))).bind fun z13 => (loop (fun s : ((List Int) × Int) => spec_l14Letter.b0 p0 p1 s.1 s.2) ((z13, 0))).bind (fun q => spec_l14Letter.k0 q)

noncomputable def spec_l14Mul.k0 (y4 : (List Int)) : Option (List Int) := some y4
noncomputable def spec_l14Mul.k1 (x8_l0 : Int) (y14 : (List Int)) : Option (((List Int) × Int) ⊕ (List Int)) := some (.inl ((y14, (W (x8_l0 + 1)))))
noncomputable def spec_l14Mul.k2 (x9_l1 : Int) (y24 : (List Int)) : Option (((List Int) × Int) ⊕ (List Int)) := some (.inl ((y24, (W (x9_l1 + 1)))))
noncomputable def spec_l14Mul.b2 (p0 : Int) (p1 : (List Int)) (x8_l0 : Int) (p2 : (List Int)) (x9_l1 : Int) (y26 : (List Int)) (x10_l2 : Int) : Option (((List Int) × Int) ⊕ (List Int)) := (if x10_l2 < p0 then (ix p1 ((W (((W (x8_l0 * p0))) + x10_l2)))).bind fun a36 => bnd ((decide (a36 > 0))) fun c39 => (whenO c39 (ix p2 ((W (((W (x10_l2 * p0))) + x9_l1))))).bind fun a46 => (if (c39 && (decide (a46 > 0))) = true then (ix y26 ((W (((W (x8_l0 * p0))) + x9_l1)))).bind fun a62 => (ix p1 ((W (((W (x8_l0 * p0))) + x10_l2)))).bind fun a70 => (ix p2 ((W (((W (x10_l2 * p0))) + x9_l1)))).bind fun a78 => (ck ((W (((W (x8_l0 * p0))) + x9_l1))) y26.length).bind fun m82 => some (.inl (((y26.set m82 ((spec_l1Max a62 ((spec_l1Max a70 a78))))), (W (x10_l2 + 1))))) else some (.inl ((y26, (W (x10_l2 + 1)))))) else some (.inr y26))
noncomputable def spec_l14Mul.b1 (p0 : Int) (p1 : (List Int)) (x8_l0 : Int) (p2 : (List Int)) (y16 : (List Int)) (x9_l1 : Int) : Option (((List Int) × Int) ⊕ (List Int)) := (if x9_l1 < p0 then (loop (fun s : ((List Int) × Int) => spec_l14Mul.b2 p0 p1 x8_l0 p2 x9_l1 s.1 s.2) ((y16, 0))).bind (fun q => spec_l14Mul.k2 x9_l1 q) else some (.inr y16))
noncomputable def spec_l14Mul.b0 (p0 : Int) (p1 : (List Int)) (p2 : (List Int)) (y6 : (List Int)) (x8_l0 : Int) : Option (((List Int) × Int) ⊕ (List Int)) := (if x8_l0 < p0 then (loop (fun s : ((List Int) × Int) => spec_l14Mul.b1 p0 p1 x8_l0 p2 s.1 s.2) ((y6, 0))).bind (fun q => spec_l14Mul.k1 x8_l0 q) else some (.inr y6))
noncomputable def spec_l14Mul (p0 : Int) (p1 : (List Int)) (p2 : (List Int)) : Option (List Int) := (mk 8 (0 : Int) ((W (p0 * p0)))).bind fun z14 => (loop (fun s : ((List Int) × Int) => spec_l14Mul.b0 p0 p1 p2 s.1 s.2) ((z14, 0))).bind (fun q => spec_l14Mul.k0 q)

noncomputable def spec_l3Same.k0 : Option Bool := some true
noncomputable def spec_l3Same.b0 (p0 : (List Int)) (p1 : (List Int)) (x5_l0 : Int) : Option (Int ⊕ (Unit ⊕ Bool)) := (if x5_l0 < ((p0.length : Int)) then (ix p0 x5_l0).bind fun a19 => (ix p1 x5_l0).bind fun a23 => (if a19 ≠ a23 then some (.inr ((.inr false))) else some (.inl ((W (x5_l0 + 1))))) else some (.inr ((.inl (())))))
noncomputable def spec_l3Same (p0 : (List Int)) (p1 : (List Int)) : Option Bool := (if ((p0.length : Int)) ≠ ((p1.length : Int)) then some false else (loop (fun s : Int => spec_l3Same.b0 p0 p1 s) 0).bind (Sum.elim (fun q => spec_l3Same.k0) (fun q => some q)))

noncomputable def spec_l14Find.k0 : Option Int := some ((-1))
noncomputable def spec_l14Find.b0 (p0 : (List TBoxed)) (p1 : (List Int)) (x5_l0 : Int) : Option (Int ⊕ (Unit ⊕ Int)) := (if x5_l0 < ((p0.length : Int)) then (ix p0 x5_l0).bind fun a14 => (spec_l3Same a14.box p1).bind fun a18 => (if a18 = true then some (.inr ((.inr x5_l0))) else some (.inl ((W (x5_l0 + 1))))) else some (.inr ((.inl (())))))
noncomputable def spec_l14Find (p0 : (List TBoxed)) (p1 : (List Int)) : Option Int := (loop (fun s : Int => spec_l14Find.b0 p0 p1 s) 0).bind (Sum.elim (fun q => spec_l14Find.k0) (fun q => some q))

noncomputable def spec_BoxesOf.k0 (y4 : (List TBoxed)) : Option ((List TBoxed) × Bool) := some ((y4, true))
noncomputable def spec_BoxesOf.k1 (x5_l0 : Int) (y19 : (List TBoxed)) : Option (((List TBoxed) × Int) ⊕ ((List TBoxed) ⊕ ((List TBoxed) × Bool))) := some (.inl ((y19, (W (x5_l0 + 1)))))
noncomputable def spec_BoxesOf.b1 (p0 : TAuto) (x5_l0 : Int) (y23 : (List TBoxed)) (x6_l1 : Int) : Option (((List TBoxed) × Int) ⊕ ((List TBoxed) ⊕ ((List TBoxed) × Bool))) := (if x6_l1 < p0.letters then (ix y23 x5_l0).bind fun a34 => (spec_l14Letter p0 x6_l1).bind fun a39 => (spec_l14Mul p0.states a34.box a39).bind fun a40 => (spec_l14Find y23 a40).bind fun a43 => (if a43 ≥ 0 then some (.inl ((y23, (W (x6_l1 + 1))))) else bnd ((decide (((y23.length : Int)) = 150))) fun c48 => (whenO (!c48) (ix y23 x5_l0)).bind fun a51 => (if (c48 || (decide (((a51.word.length : Int)) = 40))) = true then some (.inr ((.inr (([], false))))) else (ix y23 x5_l0).bind fun a62 => (app 8 ([]) a62.word).bind fun z65 => (app 8 z65 ([x6_l1])).bind fun z68 => (app 48 y23 ([(TBoxed.mk z68 a40)])).bind fun z72 => some (.inl ((z72, (W (x6_l1 + 1))))))) else some (.inr ((.inl y23))))
noncomputable def spec_BoxesOf.b0 (p0 : TAuto) (y9 : (List TBoxed)) (x5_l0 : Int) : Option (((List TBoxed) × Int) ⊕ ((List TBoxed) ⊕ ((List TBoxed) × Bool))) := (if x5_l0 < ((y9.length : Int)) then (loop (fun s : ((List TBoxed) × Int) => spec_BoxesOf.b1 p0 x5_l0 s.1 s.2) ((y9, 0))).bind (Sum.elim (fun q => spec_BoxesOf.k1 x5_l0 q) (fun q => some (.inr ((.inr q))))) else some (.inr ((.inl y9))))
noncomputable def spec_BoxesOf (p0 : TAuto) : Option ((List TBoxed) × Bool) := (spec_l14Right p0).bind fun a9 => (if (!a9) = true then some (([], false)) else (spec_BoxOne p0.states).bind fun a15 => (loop (fun s : ((List TBoxed) × Int) => spec_BoxesOf.b0 p0 s.1 s.2) (([(TBoxed.mk ([]) a15)], 0))).bind (Sum.elim (fun q => spec_BoxesOf.k0 q) (fun q => some q)))

noncomputable def impl_areLetters.k0 : Option Bool := some true
noncomputable def impl_areLetters.b0 (p0 : (List Int)) (p1 : Int) (x9_l0 : Int) : Option (Int ⊕ (Unit ⊕ Bool)) := (if x9_l0 < ((p0.length : Int)) then (ix p0 x9_l0).bind fun a11 => (if (!(impl_inRange a11 0 ((W (p1 - 1))))) = true then some (.inr ((.inr false))) else some (.inl ((W (x9_l0 + 1))))) else some (.inr ((.inl (())))))
noncomputable def impl_areLetters (p0 : (List Int)) (p1 : Int) : Option Bool := (loop (fun s : Int => impl_areLetters.b0 p0 p1 s) 0).bind (Sum.elim (fun q => impl_areLetters.k0) (fun q => some q))

noncomputable def impl_BoxOf.k0 (y6 : (List Int)) : Option (List Int) := some y6
noncomputable def impl_BoxOf.b0 (p1 : (List Int)) (p0 : TAuto) (y10 : (List Int)) (x34_l0 : Int) : Option (((List Int) × Int) ⊕ (List Int)) := (if x34_l0 < ((p1.length : Int)) then (ix p1 x34_l0).bind fun a36 => (impl_boxLetter p0 a36).bind fun a43 => (impl_boxMul p0.states y10 a43).bind fun a44 => some (.inl ((a44, (W (x34_l0 + 1))))) else some (.inr y10))
noncomputable def impl_BoxOf (p0 : TAuto) (p1 : (List Int)) : Option (List Int) := bnd ((!(impl_isBoxed p0.states))) fun c12 => bnd ((c12 || (decide (((p1.length : Int)) > 60)))) fun c17 => (whenO (!c17) (impl_AutoOk p0)).bind fun a19 => bnd ((c17 || (!a19))) fun c22 => (whenO (!c22) (impl_areLetters p1 p0.letters)).bind fun a26 => (if (c22 || (!a26)) = true then some ([]) else (impl_boxOne p0.states).bind fun a31 => (loop (fun s : ((List Int) × Int) => impl_BoxOf.b0 p1 p0 s.1 s.2) ((a31, 0))).bind (fun q => impl_BoxOf.k0 q))

noncomputable def laws_sameInts.k0 : Option Bool := some true
noncomputable def laws_sameInts.b0 (p0 : (List Int)) (p1 : (List Int)) (x5_l0 : Int) : Option (Int ⊕ (Unit ⊕ Bool)) := (if x5_l0 < ((p0.length : Int)) then (ix p0 x5_l0).bind fun a19 => (ix p1 x5_l0).bind fun a23 => (if a19 ≠ a23 then some (.inr ((.inr false))) else some (.inl ((W (x5_l0 + 1))))) else some (.inr ((.inl (())))))
noncomputable def laws_sameInts (p0 : (List Int)) (p1 : (List Int)) : Option Bool := (if ((p0.length : Int)) ≠ ((p1.length : Int)) then some false else (loop (fun s : Int => laws_sameInts.b0 p0 p1 s) 0).bind (Sum.elim (fun q => laws_sameInts.k0) (fun q => some q)))

noncomputable def impl_BoxOk.k0 : Option Bool := some true
noncomputable def impl_BoxOk.b0 (p1 : (List Int)) (x20_l0 : Int) : Option (Int ⊕ (Unit ⊕ Bool)) := (if x20_l0 < ((p1.length : Int)) then (ix p1 x20_l0).bind fun a22 => (if (!(impl_inRange a22 0 2)) = true then some (.inr ((.inr false))) else some (.inl ((W (x20_l0 + 1))))) else some (.inr ((.inl (())))))
noncomputable def impl_BoxOk (p0 : Int) (p1 : (List Int)) : Option Bool := bnd ((!(impl_isBoxed p0))) fun c10 => (if (c10 || (decide (((p1.length : Int)) ≠ ((W (p0 * p0)))))) = true then some false else (loop (fun s : Int => impl_BoxOk.b0 p1 s) 0).bind (Sum.elim (fun q => impl_BoxOk.k0) (fun q => some q)))

noncomputable def impl_BoxMul (p0 : Int) (p1 : (List Int)) (p2 : (List Int)) : Option (List Int) := (impl_BoxOk p0 p1).bind fun a9 => bnd ((!a9)) fun c11 => (whenO (!c11) (impl_BoxOk p0 p2)).bind fun a14 => (if (c11 || (!a14)) = true then some ([]) else (impl_boxMul p0 p1 p2).bind fun a20 => some a20)

noncomputable def impl_BoxOne (p0 : Int) : Option (List Int) := (if (!(impl_isBoxed p0)) = true then some ([]) else (impl_boxOne p0).bind fun a7 => some a7)

noncomputable def laws_FnAllBoxes.k0 (a19 : ((List TBoxed) × Bool)) (a16 : TAuto) : Option Bool := (ix a19.1 0).bind fun a111 => bnd ((decide (((a111.word.length : Int)) = 0))) fun c116 => (whenO c116 (ix a19.1 0)).bind fun a118 => (whenO c116 (impl_BoxOne a16.states)).bind fun a123 => (whenO c116 (laws_sameInts a118.box a123)).bind fun a124 => some ((c116 && a124))
noncomputable def laws_FnAllBoxes.k1 (x8_l0 : Int) : Option (Int ⊕ (Unit ⊕ Bool)) := some (.inl ((W (x8_l0 + 1))))
noncomputable def laws_FnAllBoxes.k2 (x9_l1 : Int) : Option (Int ⊕ (Unit ⊕ Bool)) := some (.inl ((W (x9_l1 + 1))))
noncomputable def laws_FnAllBoxes.k3 (x9_l1 : Int) (x11_4 : Int) : Option (Int ⊕ (Unit ⊕ Bool)) := (if x11_4 ≠ 1 then some (.inr ((.inr false))) else laws_FnAllBoxes.k2 x9_l1)
noncomputable def laws_FnAllBoxes.b2 (a19 : ((List TBoxed) × Bool)) (a92 : (List Int)) (x11_l2 : Int) (x12_l2 : Int) : Option ((Int × Int) ⊕ Int) := (if x12_l2 < ((a19.1.length : Int)) then (ix a19.1 x12_l2).bind fun a101 => (laws_sameInts a101.box a92).bind fun a105 => (if a105 = true then some (.inl (((W (x11_l2 + 1)), (W (x12_l2 + 1))))) else some (.inl ((x11_l2, (W (x12_l2 + 1)))))) else some (.inr x11_l2))
noncomputable def laws_FnAllBoxes.b1 (a16 : TAuto) (a19 : ((List TBoxed) × Bool)) (x8_l0 : Int) (x9_l1 : Int) : Option (Int ⊕ (Unit ⊕ Bool)) := (if x9_l1 < a16.letters then (ix a19.1 x8_l0).bind fun a85 => (impl_BoxOf a16 ([x9_l1])).bind fun a91 => (impl_BoxMul a16.states a85.box a91).bind fun a92 => (loop (fun s : (Int × Int) => laws_FnAllBoxes.b2 a19 a92 s.1 s.2) ((0, 0))).bind (fun q => laws_FnAllBoxes.k3 x9_l1 q) else some (.inr ((.inl (())))))
noncomputable def laws_FnAllBoxes.b0 (a19 : ((List TBoxed) × Bool)) (a16 : TAuto) (x8_l0 : Int) : Option (Int ⊕ (Unit ⊕ Bool)) := (if x8_l0 < ((a19.1.length : Int)) then (ix a19.1 x8_l0).bind fun a43 => (ix a19.1 x8_l0).bind fun a49 => (impl_BoxOf a16 a49.word).bind fun a52 => (laws_sameInts a43.box a52).bind fun a53 => bnd ((!a53)) fun c55 => bnd ((decide (x8_l0 > 0))) fun c58 => (whenO ((!c55) && c58) (ix a19.1 x8_l0)).bind fun a61 => (whenO ((!c55) && c58) (ix a19.1 ((W (x8_l0 - 1))))).bind fun a68 => (if (c55 || (c58 && (decide (((a61.word.length : Int)) < ((a68.word.length : Int)))))) = true then some (.inr ((.inr false))) else (loop (fun s : Int => laws_FnAllBoxes.b1 a16 a19 x8_l0 s) 0).bind (Sum.elim (fun q => laws_FnAllBoxes.k1 x8_l0) (fun q => some (.inr ((.inr q)))))) else some (.inr ((.inl (())))))
noncomputable def laws_FnAllBoxes (p0 : (List Int)) : Option Bool := (if (laws_big p0) = true then some true else (spec_DrawBoxesOf p0).bind fun a16 => (impl_BoxesOf a16).bind fun a19 => (spec_BoxesOf a16).bind fun a24 => (if (!(a19.2 == a24.2)) = true then some false else (if (!a19.2) = true then some ((decide (((a19.1.length : Int)) = 0))) else (loop (fun s : Int => laws_FnAllBoxes.b0 a19 a16 s) 0).bind (Sum.elim (fun q => laws_FnAllBoxes.k0 a19 a16) (fun q => some q)))))

end Go.Proofs.Ytcmbbpdepobnlaa
