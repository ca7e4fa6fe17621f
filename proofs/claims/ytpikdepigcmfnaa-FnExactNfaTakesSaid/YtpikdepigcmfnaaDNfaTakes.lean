/- Plain functions that the program's functions come to: FnExactNfaTakes. -/
import Derived.Test.YtpikdepigcmfnaaTy
import Derived.Test.YtpikdepigcmfnaaDReOk
import Derived.Test.YtpikdepigcmfnaaDReTakes
namespace Go.Proofs.Ytpikdepigcmfnaa
open Go Go.RowKit E
set_option linter.unusedVariables false
noncomputable def laws_szEdgeS (p0 : (List TEdge)) (p1 : Int) : Int := (if ((W (p1 - ((p0.length : Int))))) < 0 then (-1) else (W (p1 - ((p0.length : Int)))))

noncomputable def laws_szAuto (p0 : TAuto) (p1 : Int) : Int := (if ((laws_szEdgeS p0.edges p1)) < 0 then (-1) else (laws_szEdgeS p0.edges p1))

noncomputable def laws_szNfa (p0 : TNfa) (p1 : Int) : Int := (if ((laws_szAuto p0.auto p1)) < 0 then (-1) else (laws_szAuto p0.auto p1))

noncomputable def laws_toEdge (p0 : TEdge) : TEdge := p0

noncomputable def laws_toEdgeS.k0 (y4 : (List TEdge)) : Option (List TEdge) := some y4
noncomputable def laws_toEdgeS.b0 (p0 : (List TEdge)) (y6 : (List TEdge)) (x4_l0 : Int) : Option (((List TEdge) × Int) ⊕ (List TEdge)) := (if x4_l0 < ((p0.length : Int)) then (ix p0 x4_l0).bind fun a18 => (ck x4_l0 y6.length).bind fun m21 => some (.inl (((y6.set m21 ((laws_toEdge a18))), (W (x4_l0 + 1))))) else some (.inr y6))
noncomputable def laws_toEdgeS (p0 : (List TEdge)) : Option (List TEdge) := (mk 32 (TEdge.mk (0 : Int) (0 : Int) (0 : Int) false) ((p0.length : Int))).bind fun z7 => (loop (fun s : ((List TEdge) × Int) => laws_toEdgeS.b0 p0 s.1 s.2) ((z7, 0))).bind (fun q => laws_toEdgeS.k0 q)

noncomputable def laws_toAuto (p0 : TAuto) : Option TAuto := (laws_toEdgeS p0.edges).bind fun a15 => some ((TAuto.mk p0.letters p0.states p0.start a15))

noncomputable def laws_toNfa (p0 : TNfa) : Option TNfa := (laws_toAuto p0.auto).bind fun a6 => some ((TNfa.mk a6 p0.final))

noncomputable def spec_SetOk (p0 : Int) : Bool := (spec_l1In p0 0 2147483647)

noncomputable def spec_SetIn (p0 : Int) (p1 : Int) : Bool := bnd ((spec_SetOk p0)) fun c7 => bnd ((c7 && (spec_SetOk p1))) fun c11 => (c11 && (decide (((bAnd .i64 p0 p1)) = p0)))

noncomputable def spec_l4State (p0 : Int) (p1 : Int) : Bool := (spec_l1In p0 0 ((W (p1 - 1))))

noncomputable def spec_l4Less (p0 : TEdge) (p1 : TEdge) : Bool := (if p0.from_ ≠ p1.from_ then (decide (p0.from_ < p1.from_)) else (if p0.letter ≠ p1.letter then (decide (p0.letter < p1.letter)) else (decide (p0.to_ < p1.to_))))

noncomputable def spec_AutoOk.k0 : Option Bool := some true
noncomputable def spec_AutoOk.b0 (p0 : TAuto) (x3_l0 : Int) : Option (Int ⊕ (Unit ⊕ Bool)) := (if x3_l0 < ((p0.edges.length : Int)) then (ix p0.edges x3_l0).bind fun a41 => bnd ((!(spec_l4State a41.from_ p0.states))) fun c49 => bnd ((c49 || (!(spec_l4State a41.to_ p0.states)))) fun c57 => bnd ((c57 || (!(spec_l1In a41.letter 0 ((W (p0.letters - 1))))))) fun c66 => bnd ((decide (x3_l0 > 0))) fun c69 => (whenO ((!c66) && c69) (ix p0.edges ((W (x3_l0 - 1))))).bind fun a74 => (if (c66 || (c69 && (!(spec_l4Less a74 a41)))) = true then some (.inr ((.inr false))) else some (.inl ((W (x3_l0 + 1))))) else some (.inr ((.inl (())))))
noncomputable def spec_AutoOk (p0 : TAuto) : Option Bool := bnd ((!(spec_l1In p0.letters 1 8))) fun c9 => bnd ((c9 || (!(spec_l1In p0.states 0 31)))) fun c15 => (whenO (!c15) (chk (decide (0 ≤ p0.states)))).bind fun u1 => bnd ((c15 || (!(spec_SetIn p0.start ((W (((shl .i64 1 p0.states)) - 1))))))) fun c25 => (if (c25 || (decide (((p0.edges.length : Int)) > 2000))) = true then some false else (loop (fun s : Int => spec_AutoOk.b0 p0 s) 0).bind (Sum.elim (fun q => spec_AutoOk.k0) (fun q => some q)))

noncomputable def spec_NfaOk.k0 : Option Bool := some true
noncomputable def spec_NfaOk.b0 (p0 : TNfa) (x3_l0 : Int) : Option (Int ⊕ (Unit ⊕ Bool)) := (if x3_l0 < ((p0.auto.edges.length : Int)) then (ix p0.auto.edges x3_l0).bind fun a31 => (if a31.good = true then some (.inr ((.inr false))) else some (.inl ((W (x3_l0 + 1))))) else some (.inr ((.inl (())))))
noncomputable def spec_NfaOk (p0 : TNfa) : Option Bool := (spec_AutoOk p0.auto).bind fun a6 => bnd ((!a6)) fun c8 => (whenO (!c8) (chk (decide (0 ≤ p0.auto.states)))).bind fun u1 => (if (c8 || (!(spec_SetIn p0.final ((W (((shl .i64 1 p0.auto.states)) - 1)))))) = true then some false else (loop (fun s : Int => spec_NfaOk.b0 p0 s) 0).bind (Sum.elim (fun q => spec_NfaOk.k0) (fun q => some q)))

noncomputable def spec_l3Letters.k0 : Option Bool := some true
noncomputable def spec_l3Letters.b0 (p0 : (List Int)) (p1 : Int) (x5_l0 : Int) : Option (Int ⊕ (Unit ⊕ Bool)) := (if x5_l0 < ((p0.length : Int)) then (ix p0 x5_l0).bind fun a14 => (if (!(spec_l1In a14 0 ((W (p1 - 1))))) = true then some (.inr ((.inr false))) else some (.inl ((W (x5_l0 + 1))))) else some (.inr ((.inl (())))))
noncomputable def spec_l3Letters (p0 : (List Int)) (p1 : Int) : Option Bool := (loop (fun s : Int => spec_l3Letters.b0 p0 p1 s) 0).bind (Sum.elim (fun q => spec_l3Letters.k0) (fun q => some q))

noncomputable def spec_l1Bit (p0 : Int) : Option Int := (chk (decide (0 ≤ ((bAnd .i64 p0 31))))).bind fun u1 => some ((shl .i64 1 ((bAnd .i64 p0 31))))

noncomputable def spec_l1Has (p0 : Int) (p1 : Int) : Option Bool := bnd ((spec_l1In p1 0 30)) fun c7 => (whenO c7 (spec_l1Bit p1)).bind fun a10 => some ((c7 && (decide (((bAnd .i64 p0 a10)) ≠ 0))))

noncomputable def spec_l4Next.k0 (x7_1 : Int) : Option Int := some x7_1
noncomputable def spec_l4Next.b0 (p0 : TAuto) (p2 : Int) (p1 : Int) (x7_l0 : Int) (x8_l0 : Int) : Option ((Int × Int) ⊕ Int) := (if x8_l0 < ((p0.edges.length : Int)) then (ix p0.edges x8_l0).bind fun a20 => bnd ((decide (a20.letter = p2))) fun c26 => (whenO c26 (spec_l1Has p1 a20.from_)).bind fun a30 => (if (c26 && a30) = true then (spec_l1Bit a20.to_).bind fun a35 => some (.inl (((bOr .i64 x7_l0 a35), (W (x8_l0 + 1))))) else some (.inl ((x7_l0, (W (x8_l0 + 1)))))) else some (.inr x7_l0))
noncomputable def spec_l4Next (p0 : TAuto) (p1 : Int) (p2 : Int) : Option Int := (loop (fun s : (Int × Int) => spec_l4Next.b0 p0 p2 p1 s.1 s.2) ((0, 0))).bind (fun q => spec_l4Next.k0 q)

noncomputable def spec_NfaTakes.k0 (p0 : TNfa) (x5_1 : Int) : Option Bool := some ((decide (((bAnd .i64 x5_1 p0.final)) ≠ 0)))
noncomputable def spec_NfaTakes.b0 (p1 : (List Int)) (p0 : TNfa) (x5_l0 : Int) (x6_l0 : Int) : Option ((Int × Int) ⊕ Int) := (if x6_l0 < ((p1.length : Int)) then (ix p1 x6_l0).bind fun a37 => (spec_l4Next p0.auto x5_l0 a37).bind fun a39 => some (.inl ((a39, (W (x6_l0 + 1))))) else some (.inr x5_l0))
noncomputable def spec_NfaTakes (p0 : TNfa) (p1 : (List Int)) : Option Bool := (spec_NfaOk p0).bind fun a8 => bnd ((!a8)) fun c10 => bnd ((c10 || (decide (((p1.length : Int)) > 60)))) fun c15 => (whenO (!c15) (spec_l3Letters p1 p0.auto.letters)).bind fun a20 => (if (c15 || (!a20)) = true then some false else (loop (fun s : (Int × Int) => spec_NfaTakes.b0 p1 p0 s.1 s.2) ((p0.auto.start, 0))).bind (fun q => spec_NfaTakes.k0 p0 q))

noncomputable def impl_isLetters (p0 : Int) : Bool := (impl_inRange p0 1 8)

noncomputable def impl_SetOk (p0 : Int) : Bool := (impl_inRange p0 0 2147483647)

noncomputable def impl_only (p0 : Int) : Int := (shl .i64 1 ((IntKind.u64.wrap p0)))

noncomputable def impl_headOk (p0 : Int) (p1 : Int) (p2 : Int) : Bool := bnd ((impl_isLetters p0)) fun c9 => bnd ((c9 && (impl_inRange p1 0 31))) fun c13 => bnd ((c13 && (impl_SetOk p2))) fun c17 => (c17 && (decide (p2 < ((impl_only p1)))))

noncomputable def cmp_isNaN_int (p0 : Int) : Bool := (decide (p0 ≠ p0))

noncomputable def cmp_Compare_int (p0 : Int) (p1 : Int) : Int := (if (cmp_isNaN_int p0) = true then (if (cmp_isNaN_int p1) = true then 0 else (-1)) else (if (cmp_isNaN_int p1) = true then 1 else (if p0 < p1 then (-1) else (if p0 > p1 then 1 else 0))))

noncomputable def cmp_Or_int.k0 : Option Int := some 0
noncomputable def cmp_Or_int.b0 (p0 : (List Int)) (x8_l0 : Int) : Option (Int ⊕ (Unit ⊕ Int)) := (if x8_l0 < ((p0.length : Int)) then (ix p0 x8_l0).bind fun a10 => (if a10 ≠ 0 then some (.inr ((.inr a10))) else some (.inl ((W (x8_l0 + 1))))) else some (.inr ((.inl (())))))
noncomputable def cmp_Or_int (p0 : (List Int)) : Option Int := (loop (fun s : Int => cmp_Or_int.b0 p0 s) 0).bind (Sum.elim (fun q => cmp_Or_int.k0) (fun q => some q))

noncomputable def impl_compareEdges (p0 : TEdge) (p1 : TEdge) : Option Int := (cmp_Or_int ([(cmp_Compare_int p0.from_ p1.from_), (cmp_Compare_int p0.letter p1.letter), (cmp_Compare_int p0.to_ p1.to_)])).bind fun a21 => some a21

noncomputable def impl_AutoOk.k0 : Option Bool := some true
noncomputable def impl_AutoOk.b0 (p0 : TAuto) (x22_l0 : Int) : Option (Int ⊕ (Unit ⊕ Bool)) := (if x22_l0 < ((p0.edges.length : Int)) then (ix p0.edges x22_l0).bind fun a25 => bnd ((!(impl_inRange a25.from_ 0 ((W (p0.states - 1)))))) fun c34 => bnd ((c34 || (!(impl_inRange a25.to_ 0 ((W (p0.states - 1))))))) fun c43 => (if (c43 || (!(impl_inRange a25.letter 0 ((W (p0.letters - 1)))))) = true then some (.inr ((.inr false))) else bnd ((decide (x22_l0 > 0))) fun c54 => (whenO c54 (ix p0.edges ((W (x22_l0 - 1))))).bind fun a59 => (whenO c54 (impl_compareEdges a59 a25)).bind fun a62 => (if (c54 && (decide (a62 ≥ 0))) = true then some (.inr ((.inr false))) else some (.inl ((W (x22_l0 + 1)))))) else some (.inr ((.inl (())))))
noncomputable def impl_AutoOk (p0 : TAuto) : Option Bool := bnd ((!(impl_headOk p0.letters p0.states p0.start))) fun c13 => (if (c13 || (decide (((p0.edges.length : Int)) > 2000))) = true then some false else (loop (fun s : Int => impl_AutoOk.b0 p0 s) 0).bind (Sum.elim (fun q => impl_AutoOk.k0) (fun q => some q)))

noncomputable def impl_NfaOk.k0 (p0 : TNfa) : Option Bool := (impl_AutoOk p0.auto).bind fun a18 => bnd ((a18 && (impl_SetOk p0.final))) fun c24 => some ((c24 && (decide (p0.final < ((impl_only p0.auto.states))))))
noncomputable def impl_NfaOk.b0 (p0 : TNfa) (x9_l0 : Int) : Option (Int ⊕ (Unit ⊕ Bool)) := (if x9_l0 < ((p0.auto.edges.length : Int)) then (ix p0.auto.edges x9_l0).bind fun a11 => (if a11.good = true then some (.inr ((.inr false))) else some (.inl ((W (x9_l0 + 1))))) else some (.inr ((.inl (())))))
noncomputable def impl_NfaOk (p0 : TNfa) : Option Bool := (loop (fun s : Int => impl_NfaOk.b0 p0 s) 0).bind (Sum.elim (fun q => impl_NfaOk.k0 p0) (fun q => some q))

noncomputable def impl_areLetters.k0 : Option Bool := some true
noncomputable def impl_areLetters.b0 (p0 : (List Int)) (p1 : Int) (x9_l0 : Int) : Option (Int ⊕ (Unit ⊕ Bool)) := (if x9_l0 < ((p0.length : Int)) then (ix p0 x9_l0).bind fun a11 => (if (!(impl_inRange a11 0 ((W (p1 - 1))))) = true then some (.inr ((.inr false))) else some (.inl ((W (x9_l0 + 1))))) else some (.inr ((.inl (())))))
noncomputable def impl_areLetters (p0 : (List Int)) (p1 : Int) : Option Bool := (loop (fun s : Int => impl_areLetters.b0 p0 p1 s) 0).bind (Sum.elim (fun q => impl_areLetters.k0) (fun q => some q))

noncomputable def impl_has (p0 : Int) (p1 : Int) : Bool := (decide (((bAnd .i64 ((shr .i64 p0 ((IntKind.u64.wrap p1)))) 1)) = 1))

noncomputable def impl_Auto_step.k0 (x7_1 : Int) : Option Int := some x7_1
noncomputable def impl_Auto_step.b0 (p0 : TAuto) (p2 : Int) (p1 : Int) (x7_l0 : Int) (x15_l0 : Int) : Option ((Int × Int) ⊕ Int) := (if x15_l0 < ((p0.edges.length : Int)) then (ix p0.edges x15_l0).bind fun a17 => bnd ((decide (a17.letter = p2))) fun c23 => (if (c23 && (impl_has p1 a17.from_)) = true then some (.inl (((bOr .i64 x7_l0 ((impl_only a17.to_))), (W (x15_l0 + 1))))) else some (.inl ((x7_l0, (W (x15_l0 + 1)))))) else some (.inr x7_l0))
noncomputable def impl_Auto_step (p0 : TAuto) (p1 : Int) (p2 : Int) : Option Int := (loop (fun s : (Int × Int) => impl_Auto_step.b0 p0 p2 p1 s.1 s.2) ((0, 0))).bind (fun q => impl_Auto_step.k0 q)

noncomputable def impl_NfaTakes.k0 (p0 : TNfa) (x5_1 : Int) : Option Bool := some ((decide (((bAnd .i64 x5_1 p0.final)) ≠ 0)))
noncomputable def impl_NfaTakes.b0 (p1 : (List Int)) (p0 : TNfa) (x5_l0 : Int) (x29_l0 : Int) : Option ((Int × Int) ⊕ Int) := (if x29_l0 < ((p1.length : Int)) then (ix p1 x29_l0).bind fun a31 => (impl_Auto_step p0.auto x5_l0 a31).bind fun a36 => some (.inl ((a36, (W (x29_l0 + 1))))) else some (.inr x5_l0))
noncomputable def impl_NfaTakes (p0 : TNfa) (p1 : (List Int)) : Option Bool := bnd ((decide (((p1.length : Int)) > 60))) fun c11 => (whenO (!c11) (impl_NfaOk p0)).bind fun a13 => bnd ((c11 || (!a13))) fun c16 => (whenO (!c16) (impl_areLetters p1 p0.auto.letters)).bind fun a21 => (if (c16 || (!a21)) = true then some false else (loop (fun s : (Int × Int) => impl_NfaTakes.b0 p1 p0 s.1 s.2) ((p0.auto.start, 0))).bind (fun q => impl_NfaTakes.k0 p0 q))

noncomputable def laws_eqEdge (p0 : TEdge) (p1 : TEdge) : Bool := (if p0.from_ ≠ p1.from_ then false else (if p0.letter ≠ p1.letter then false else (if p0.to_ ≠ p1.to_ then false else (if (!(p0.good == p1.good)) = true then false else true))))

noncomputable def laws_eqEdgeS.k0 : Option Bool := some true
noncomputable def laws_eqEdgeS.b0 (p0 : (List TEdge)) (p1 : (List TEdge)) (x5_l0 : Int) : Option (Int ⊕ (Unit ⊕ Bool)) := (if x5_l0 < ((p0.length : Int)) then (ix p0 x5_l0).bind fun a19 => (ix p1 x5_l0).bind fun a23 => (if (!(laws_eqEdge a19 a23)) = true then some (.inr ((.inr false))) else some (.inl ((W (x5_l0 + 1))))) else some (.inr ((.inl (())))))
noncomputable def laws_eqEdgeS (p0 : (List TEdge)) (p1 : (List TEdge)) : Option Bool := (if ((p0.length : Int)) ≠ ((p1.length : Int)) then some false else (loop (fun s : Int => laws_eqEdgeS.b0 p0 p1 s) 0).bind (Sum.elim (fun q => laws_eqEdgeS.k0) (fun q => some q)))

noncomputable def laws_eqAuto (p0 : TAuto) (p1 : TAuto) : Option Bool := (if p0.letters ≠ p1.letters then some false else (if p0.states ≠ p1.states then some false else (if p0.start ≠ p1.start then some false else (laws_eqEdgeS p0.edges p1.edges).bind fun a24 => (if (!a24) = true then some false else some true))))

noncomputable def laws_eqNfa (p0 : TNfa) (p1 : TNfa) : Option Bool := (laws_eqAuto p0.auto p1.auto).bind fun a9 => (if (!a9) = true then some false else (if p0.final ≠ p1.final then some false else some true))

noncomputable def laws_FnExactNfaTakes (p0 : TNfa) (p1 : (List Int)) : Option Bool := (if ((p1.length : Int)) > 1048576 then some true else (if ((laws_szNfa p0 1048576)) < 0 then some true else (laws_toNfa p0).bind fun a19 => (laws_toIntS p1).bind fun a21 => (spec_NfaTakes a19 a21).bind fun a22 => (laws_toNfa p0).bind fun a24 => (laws_toIntS p1).bind fun a26 => (impl_NfaTakes a24 a26).bind fun a29 => (if (!(a29 == a22)) = true then some false else (laws_toNfa p0).bind fun a35 => (laws_eqNfa a24 a35).bind fun a36 => (if (!a36) = true then some false else (laws_toIntS p1).bind fun a40 => (laws_eqIntS a26 a40).bind fun a41 => (if (!a41) = true then some false else some true)))))

end Go.Proofs.Ytpikdepigcmfnaa
