/- Plain functions that the program's functions come to: FnSteps9. -/
import Derived.Test.YtjjlkncefgfljaaTy
import Derived.Test.YtjjlkncefgfljaaDPair8
import Derived.Test.YtjjlkncefgfljaaDLtlAt
namespace Go.Proofs.Ytjjlkncefgfljaa
open Go Go.RowKit E
set_option linter.unusedVariables false
noncomputable def spec_l3DrawLetters.k0 (y6 : (List Int)) (y9 : (List Int)) (y10 : Int) (y11 : Int) : Option ((List Int) × Tl1Cur) := some ((y6, (Tl1Cur.mk y9 y10 y11)))
noncomputable def spec_l3DrawLetters.b0 (a14 : (Int × Tl1Cur)) (p2 : Int) (y13 : (List Int)) (y14 : Int) (y15 : Int) (y16 : (List Int)) (x9_l0 : Int) : Option (((List Int) × Int × Int × (List Int) × Int) ⊕ ((List Int) × (List Int) × Int × Int)) := (if x9_l0 < a14.1 then (spec_l1Below ((Tl1Cur.mk y13 y14 y15)) p2).bind fun a23 => (app 8 y16 ([a23.1])).bind fun z25 => some (.inl ((a23.2.b, a23.2.i, a23.2.h, z25, (W (x9_l0 + 1))))) else some (.inr ((y16, y13, y14, y15))))
noncomputable def spec_l3DrawLetters (p0 : Tl1Cur) (p1 : Int) (p2 : Int) : Option ((List Int) × Tl1Cur) := (spec_l1Below p0 ((W (p1 + 1)))).bind fun a14 => (loop (fun s : ((List Int) × Int × Int × (List Int) × Int) => spec_l3DrawLetters.b0 a14 p2 s.1 s.2.1 s.2.2.1 s.2.2.2.1 s.2.2.2.2) ((a14.2.b, a14.2.i, a14.2.h, [], 0))).bind (fun q => spec_l3DrawLetters.k0 q.1 q.2.1 q.2.2.1 q.2.2.2)

noncomputable def spec_l1Once (p0 : Tl1Cur) (p1 : Int) : Option (Bool × Tl1Cur) := (spec_l1Below p0 p1).bind fun a7 => some (((decide (a7.1 = 0)), a7.2))

noncomputable def spec_l3Told (p0 : TWord) : Option (TWord × Bool) := (spec_l3Right ((TWord.mk p0.stem p0.loop))).bind fun a5 => (if (!a5) = true then some (((TWord.mk ([]) ([])), false)) else some (((TWord.mk p0.stem p0.loop), true)))

noncomputable def spec_WordPower.k0 (y19 : (List Int)) (y22 : (List Int)) : Option (TWord × Bool) := (spec_l3Told ((TWord.mk y19 y22))).bind fun a34 => some (((TWord.mk a34.1.stem a34.1.loop), a34.2))
noncomputable def spec_WordPower.b0 (p1 : Int) (p0 : TWord) (y32 : (List Int)) (y35 : (List Int)) (x7_l0 : Int) : Option (((List Int) × (List Int) × Int) ⊕ ((List Int) × (List Int))) := (if x7_l0 < p1 then (app 8 y35 p0.loop).bind fun z31 => some (.inl ((y32, z31, (W (x7_l0 + 1))))) else some (.inr ((y32, y35))))
noncomputable def spec_WordPower (p0 : TWord) (p1 : Int) : Option (TWord × Bool) := (spec_l3Right p0).bind fun a9 => bnd ((!a9)) fun c11 => (if (c11 || (!(spec_l1In p1 1 40))) = true then some (((TWord.mk ([]) ([])), false)) else (app 8 ([]) p0.stem).bind fun z20 => (loop (fun s : ((List Int) × (List Int) × Int) => spec_WordPower.b0 p1 p0 s.1 s.2.1 s.2.2) ((z20, [], 0))).bind (fun q => spec_WordPower.k0 q.1 q.2))

noncomputable def spec_WordTurn (p0 : TWord) : Option (TWord × Bool) := (spec_l3Right p0).bind fun a5 => (if (!a5) = true then some (((TWord.mk ([]) ([])), false)) else (ix p0.loop 0).bind fun a14 => (cut p0.loop 1 ((p0.loop.length : Int))).bind fun a21 => (ix p0.loop 0).bind fun a25 => (app 8 ([]) p0.stem).bind fun z11 => (app 8 z11 ([a14])).bind fun z17 => (app 8 ([]) a21).bind fun z22 => (app 8 z22 ([a25])).bind fun z28 => (spec_l3Told ((TWord.mk z17 z28))).bind fun a30 => some (((TWord.mk a30.1.stem a30.1.loop), a30.2)))

noncomputable def spec_l3DrawRight.k0 (y20 : (List Int)) (y21 : Int) (y22 : Int) (y23 : (List Int)) (y26 : (List Int)) : Option (TWord × Tl1Cur) := (spec_l1Once ((Tl1Cur.mk y20 y21 y22)) 6).bind fun a26 => (if a26.1 = true then (spec_WordTurn ((TWord.mk y23 y26))).bind fun a29 => some (((TWord.mk a29.1.stem a29.1.loop), a26.2)) else some (((TWord.mk y23 y26), a26.2)))
noncomputable def spec_l3DrawRight (p0 : Tl1Cur) (p1 : Int) : Option (TWord × Tl1Cur) := (spec_l3DrawLetters p0 4 p1).bind fun a8 => (spec_l3DrawLetters a8.2 3 p1).bind fun a11 => (spec_l1Below a11.2 p1).bind fun a14 => (app 8 a11.1 ([a14.1])).bind fun z16 => (spec_l1Once a14.2 6).bind fun a19 => (if a19.1 = true then (spec_WordPower ((TWord.mk a8.1 z16)) 2).bind fun a22 => spec_l3DrawRight.k0 a19.2.b a19.2.i a19.2.h a22.1.stem a22.1.loop else spec_l3DrawRight.k0 a19.2.b a19.2.i a19.2.h a8.1 z16)

noncomputable def spec_l3DrawWord.k0 (y17 : (List Int)) (y20 : (List Int)) (y23 : (List Int)) (y24 : Int) (y25 : Int) : Option (TWord × Tl1Cur) := some (((TWord.mk y17 y20), (Tl1Cur.mk y23 y24 y25)))
noncomputable def spec_l3DrawWord (p0 : Tl1Cur) : Option (TWord × Tl1Cur) := (spec_l1PickInt p0 ([1, 2, 2, 3, 8])).bind fun a7 => (spec_l3DrawRight a7.2 a7.1).bind fun a8 => (spec_l1Below a8.2 25).bind fun a10 => (if a10.1 = 0 then spec_l3DrawWord.k0 a8.1.stem ([]) a10.2.b a10.2.i a10.2.h else (if a10.1 = 1 then (spec_l1PickInt a10.2 ([(-1), 7, 8])).bind fun a20 => (app 8 a8.1.stem ([a20.1])).bind fun z22 => spec_l3DrawWord.k0 z22 a8.1.loop a20.2.b a20.2.i a20.2.h else (if a10.1 = 2 then (spec_l1Below a10.2 2).bind fun a27 => (mk 8 (0 : Int) ((W (40 + a27.1)))).bind fun z29 => spec_l3DrawWord.k0 z29 a8.1.loop a27.2.b a27.2.i a27.2.h else (if a10.1 = 3 then (spec_l1Below a10.2 2).bind fun a34 => (mk 8 (0 : Int) ((W (40 + a34.1)))).bind fun z36 => spec_l3DrawWord.k0 a8.1.stem z36 a34.2.b a34.2.i a34.2.h else spec_l3DrawWord.k0 a8.1.stem a8.1.loop a10.2.b a10.2.i a10.2.h))))

noncomputable def spec_l9DrawBoth (K : Nat) (p0 : (List Int)) : Option ((List TNode) × TWord) := (spec_l1New p0).bind fun a7 => (spec_l8DrawAny K a7).bind fun a9 => (spec_l3DrawWord a9.2).bind fun a12 => some ((a9.1, a12.1))

noncomputable def spec_DrawLtlTable (K : Nat) (p0 : (List Int)) : Option ((List TNode) × TWord) := (spec_l9DrawBoth K p0).bind fun a8 => some ((a8.1, a8.2))

noncomputable def impl_LtlTable (p0 : (List TNode)) (p1 : TWord) : Option (List (List Bool)) := (impl_LtlOk p0).bind fun a6 => bnd ((!a6)) fun c8 => (whenO (!c8) (impl_isRight p1)).bind fun a10 => (if (c8 || (!a10)) = true then some ([]) else (impl_tableOf p0 p1).bind fun a15 => some a15)

noncomputable def impl_isLetter (p0 : Int) : Bool := (impl_inRange p0 0 7)

noncomputable def impl_SetOk (p0 : Int) : Bool := (impl_inRange p0 0 2147483647)

noncomputable def slices_Index_int_int.k0 : Option Int := some ((-1))
noncomputable def slices_Index_int_int.b0 (p0 : (List Int)) (p1 : Int) (x8_l0 : Int) : Option (Int ⊕ (Unit ⊕ Int)) := (if x8_l0 < ((p0.length : Int)) then (ix p0 x8_l0).bind fun a14 => (if p1 = a14 then some (.inr ((.inr x8_l0))) else some (.inl ((W (x8_l0 + 1))))) else some (.inr ((.inl (())))))
noncomputable def slices_Index_int_int (p0 : (List Int)) (p1 : Int) : Option Int := (loop (fun s : Int => slices_Index_int_int.b0 p0 p1 s) 0).bind (Sum.elim (fun q => slices_Index_int_int.k0) (fun q => some q))

noncomputable def impl_stepOf.k0 (y4 : (List Bool)) : Option (List Bool) := some y4
noncomputable def impl_stepOf.b0 (p0 : (List TNode)) (a16 : (List Int)) (p1 : Int) (p2 : Int) (y6 : (List Bool)) (x19_l0 : Int) : Option (((List Bool) × Int) ⊕ (List Bool)) := (if x19_l0 < ((p0.length : Int)) then (ix p0 x19_l0).bind fun a22 => (slices_Index_int_int a16 x19_l0).bind fun a26 => bnd ((decide (a26 ≥ 0))) fun c34 => (impl_soBy a22 y6 p1 ((c34 && (impl_has p2 a26)))).bind fun a39 => (ck x19_l0 y6.length).bind fun m40 => some (.inl (((y6.set m40 a39), (W (x19_l0 + 1))))) else some (.inr y6))
noncomputable def impl_stepOf (p0 : (List TNode)) (p1 : Int) (p2 : Int) : Option (List Bool) := (mk 1 false ((p0.length : Int))).bind fun z14 => (impl_temporal p0).bind fun a16 => (loop (fun s : ((List Bool) × Int) => impl_stepOf.b0 p0 a16 p1 p2 s.1 s.2) ((z14, 0))).bind (fun q => impl_stepOf.k0 q)

noncomputable def impl_LtlStep (p0 : (List TNode)) (p1 : Int) (p2 : Int) : Option (List Bool) := bnd ((!(impl_isLetter p1))) fun c10 => bnd ((c10 || (!(impl_SetOk p2)))) fun c15 => (whenO (!c15) (impl_LtlOk p0)).bind fun a17 => (if (c15 || (!a17)) = true then some ([]) else (impl_stepOf p0 p1 p2).bind fun a23 => some a23)

noncomputable def impl_isMember (p0 : Int) : Bool := (impl_inRange p0 0 30)

noncomputable def impl_only (p0 : Int) : Int := (shl .i64 1 ((IntKind.u64.wrap p0)))

noncomputable def impl_SetPut (p0 : Int) (p1 : Int) : Int := (if (!(impl_SetOk p0)) = true then 0 else (if (!(impl_isMember p1)) = true then p0 else (bOr .i64 p0 ((impl_only p1)))))

noncomputable def spec_WordAt (p0 : TWord) (p1 : Int) : Option Int := (spec_l3Right p0).bind fun a6 => bnd ((!a6)) fun c8 => (if (c8 || (decide (p1 < 0))) = true then some ((-1)) else (spec_l3At p0 p1).bind fun a14 => some a14)

noncomputable def laws_FnSteps9.k0 : Option Bool := some true
noncomputable def laws_FnSteps9.k1 (x9_l0 : Int) : Option (Int ⊕ (Unit ⊕ Bool)) := some (.inl ((W (x9_l0 + 1))))
noncomputable def laws_FnSteps9.b1 (a20 : ((List TNode) × TWord)) (a106 : (List Bool)) (a25 : (List (List Bool))) (x9_l0 : Int) (x15_l1 : Int) : Option (Int ⊕ (Unit ⊕ Bool)) := (if x15_l1 < ((a20.1.length : Int)) then bnd ((decide (((a106.length : Int)) ≠ ((a20.1.length : Int))))) fun c118 => (whenO (!c118) (ix a25 x15_l1)).bind fun a121 => bnd ((c118 || (decide (((a121.length : Int)) ≠ ((W (((a20.2.stem.length : Int)) + ((a20.2.loop.length : Int))))))))) fun c127 => (whenO (!c127) (ix a106 x15_l1)).bind fun a130 => (whenO (!c127) (ix a25 x15_l1)).bind fun a134 => (whenO (!c127) (ix a134 x9_l0)).bind fun a137 => (if (c127 || (!(a130 == a137))) = true then some (.inr ((.inr false))) else some (.inl ((W (x15_l1 + 1))))) else some (.inr ((.inl (())))))
noncomputable def laws_FnSteps9.k3 (a20 : ((List TNode) × TWord)) (x9_l0 : Int) (a25 : (List (List Bool))) (x11_4 : Int) : Option (Int ⊕ (Unit ⊕ Bool)) := (spec_WordAt a20.2 x9_l0).bind fun a104 => (impl_LtlStep a20.1 a104 x11_4).bind fun a106 => (loop (fun s : Int => laws_FnSteps9.b1 a20 a106 a25 x9_l0 s) 0).bind (Sum.elim (fun q => laws_FnSteps9.k1 x9_l0) (fun q => some (.inr ((.inr q)))))
noncomputable def laws_FnSteps9.k4 (a25 : (List (List Bool))) (a20 : ((List TNode) × TWord)) (x10_3 : Int) (x11_l2 : Int) (x12_l2 : Int) (x13_5 : Int) : Option ((Int × Int) ⊕ (Int ⊕ Bool)) := (ix a25 x13_5).bind fun a86 => (if ((a86.length : Int)) ≠ ((W (((a20.2.stem.length : Int)) + ((a20.2.loop.length : Int))))) then some (.inr ((.inr false))) else (ix a25 x13_5).bind fun a93 => (ix a93 x10_3).bind fun a96 => (if a96 = true then some (.inl (((impl_SetPut x11_l2 x12_l2), (W (x12_l2 + 1))))) else some (.inl ((x11_l2, (W (x12_l2 + 1)))))))
noncomputable def laws_FnSteps9.b2 (a42 : (List Int)) (a20 : ((List TNode) × TWord)) (a25 : (List (List Bool))) (x10_3 : Int) (x11_l2 : Int) (x12_l2 : Int) : Option ((Int × Int) ⊕ (Int ⊕ Bool)) := (if x12_l2 < ((a42.length : Int)) then (ix a42 x12_l2).bind fun a71 => (ix a20.1 a71).bind fun a75 => (if a75.kind = 7 then (ix a20.1 a71).bind fun a81 => laws_FnSteps9.k4 a25 a20 x10_3 x11_l2 x12_l2 a81.a else laws_FnSteps9.k4 a25 a20 x10_3 x11_l2 x12_l2 a71) else some (.inr ((.inl x11_l2))))
noncomputable def laws_FnSteps9.k2 (a42 : (List Int)) (a20 : ((List TNode) × TWord)) (a25 : (List (List Bool))) (x9_l0 : Int) (x10_3 : Int) : Option (Int ⊕ (Unit ⊕ Bool)) := (loop (fun s : (Int × Int) => laws_FnSteps9.b2 a42 a20 a25 x10_3 s.1 s.2) ((0, 0))).bind (Sum.elim (fun q => laws_FnSteps9.k3 a20 x9_l0 a25 q) (fun q => some (.inr ((.inr q)))))
noncomputable def laws_FnSteps9.b0 (a20 : ((List TNode) × TWord)) (a42 : (List Int)) (a25 : (List (List Bool))) (x9_l0 : Int) : Option (Int ⊕ (Unit ⊕ Bool)) := (if x9_l0 < ((W (((a20.2.stem.length : Int)) + ((a20.2.loop.length : Int))))) then (if ((W (x9_l0 + 1))) = ((W (((a20.2.stem.length : Int)) + ((a20.2.loop.length : Int))))) then laws_FnSteps9.k2 a42 a20 a25 x9_l0 ((a20.2.stem.length : Int)) else laws_FnSteps9.k2 a42 a20 a25 x9_l0 ((W (x9_l0 + 1)))) else some (.inr ((.inl (())))))
noncomputable def laws_FnSteps9 (K : Nat) (p0 : (List Int)) : Option Bool := (if (laws_big p0) = true then some true else (spec_DrawLtlTable K p0).bind fun a20 => (impl_LtlTable a20.1 a20.2).bind fun a25 => (spec_LtlTable a20.1 a20.2).bind fun a28 => (if ((a25.length : Int)) ≠ ((a28.length : Int)) then some false else (if ((a25.length : Int)) = 0 then (impl_LtlStep a20.1 9 0).bind fun a38 => some ((decide (((a38.length : Int)) = 0))) else (spec_LtlTemporal a20.1).bind fun a42 => (loop (fun s : Int => laws_FnSteps9.b0 a20 a42 a25 s) 0).bind (Sum.elim (fun q => laws_FnSteps9.k0) (fun q => some q)))))

end Go.Proofs.Ytjjlkncefgfljaa
