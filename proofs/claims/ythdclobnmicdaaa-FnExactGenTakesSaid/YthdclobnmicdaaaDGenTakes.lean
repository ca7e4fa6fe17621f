/- Plain functions that the program's functions come to: FnExactGenTakes. -/
import Derived.Test.YthdclobnmicdaaaTy
namespace Go.Proofs.Ythdclobnmicdaaa
open Go Go.RowKit E
set_option linter.unusedVariables false
noncomputable def laws_szGEdgeS (p0 : (List TGEdge)) (p1 : Int) : Int := (if ((W (p1 - ((p0.length : Int))))) < 0 then (-1) else (W (p1 - ((p0.length : Int)))))

noncomputable def laws_szGen (p0 : TGen) (p1 : Int) : Int := (if ((laws_szGEdgeS p0.edges p1)) < 0 then (-1) else (laws_szGEdgeS p0.edges p1))

noncomputable def laws_szIntS (p0 : (List Int)) (p1 : Int) : Int := (if ((W (p1 - ((p0.length : Int))))) < 0 then (-1) else (W (p1 - ((p0.length : Int)))))

noncomputable def laws_szWord (p0 : TWord) (p1 : Int) : Int := (if ((laws_szIntS p0.stem p1)) < 0 then (-1) else (if ((laws_szIntS p0.loop ((laws_szIntS p0.stem p1)))) < 0 then (-1) else (laws_szIntS p0.loop ((laws_szIntS p0.stem p1)))))

noncomputable def laws_toGEdge (p0 : TGEdge) : TGEdge := p0

noncomputable def laws_toGEdgeS.k0 (y4 : (List TGEdge)) : Option (List TGEdge) := some y4
noncomputable def laws_toGEdgeS.b0 (p0 : (List TGEdge)) (y6 : (List TGEdge)) (x4_l0 : Int) : Option (((List TGEdge) × Int) ⊕ (List TGEdge)) := (if x4_l0 < ((p0.length : Int)) then (ix p0 x4_l0).bind fun a18 => (ck x4_l0 y6.length).bind fun m21 => some (.inl (((y6.set m21 ((laws_toGEdge a18))), (W (x4_l0 + 1))))) else some (.inr y6))
noncomputable def laws_toGEdgeS (p0 : (List TGEdge)) : Option (List TGEdge) := (mk 32 (TGEdge.mk (0 : Int) (0 : Int) (0 : Int) (0 : Int)) ((p0.length : Int))).bind fun z7 => (loop (fun s : ((List TGEdge) × Int) => laws_toGEdgeS.b0 p0 s.1 s.2) ((z7, 0))).bind (fun q => laws_toGEdgeS.k0 q)

noncomputable def laws_toGen (p0 : TGen) : Option TGen := (laws_toGEdgeS p0.edges).bind fun a18 => some ((TGen.mk p0.letters p0.states p0.start p0.sets a18))

noncomputable def laws_toIntS.k0 (y4 : (List Int)) : Option (List Int) := some y4
noncomputable def laws_toIntS.b0 (p0 : (List Int)) (y6 : (List Int)) (x4_l0 : Int) : Option (((List Int) × Int) ⊕ (List Int)) := (if x4_l0 < ((p0.length : Int)) then (ix p0 x4_l0).bind fun a18 => (ck x4_l0 y6.length).bind fun m20 => some (.inl (((y6.set m20 a18), (W (x4_l0 + 1))))) else some (.inr y6))
noncomputable def laws_toIntS (p0 : (List Int)) : Option (List Int) := (mk 8 (0 : Int) ((p0.length : Int))).bind fun z7 => (loop (fun s : ((List Int) × Int) => laws_toIntS.b0 p0 s.1 s.2) ((z7, 0))).bind (fun q => laws_toIntS.k0 q)

noncomputable def laws_toWord (p0 : TWord) : Option TWord := (laws_toIntS p0.stem).bind fun a6 => (laws_toIntS p0.loop).bind fun a10 => some ((TWord.mk a6 a10))

noncomputable def spec_l1In (p0 : Int) (p1 : Int) (p2 : Int) : Bool := bnd ((decide (p0 ≥ p1))) fun c10 => (c10 && (decide (p0 ≤ p2)))

noncomputable def spec_SetOk (p0 : Int) : Bool := (spec_l1In p0 0 2147483647)

noncomputable def spec_SetIn (p0 : Int) (p1 : Int) : Bool := bnd ((spec_SetOk p0)) fun c7 => bnd ((c7 && (spec_SetOk p1))) fun c11 => (c11 && (decide (((bAnd .i64 p0 p1)) = p0)))

noncomputable def spec_l4State (p0 : Int) (p1 : Int) : Bool := (spec_l1In p0 0 ((W (p1 - 1))))

noncomputable def spec_l4Less (p0 : TEdge) (p1 : TEdge) : Bool := (if p0.from_ ≠ p1.from_ then (decide (p0.from_ < p1.from_)) else (if p0.letter ≠ p1.letter then (decide (p0.letter < p1.letter)) else (decide (p0.to_ < p1.to_))))

noncomputable def spec_l5Less (p0 : TGEdge) (p1 : TGEdge) : Bool := (spec_l4Less ((TEdge.mk p0.from_ p0.letter p0.to_ false)) ((TEdge.mk p1.from_ p1.letter p1.to_ false)))

noncomputable def spec_GenOk.k0 : Option Bool := some true
noncomputable def spec_GenOk.b0 (p0 : TGen) (x3_l0 : Int) : Option (Int ⊕ (Unit ⊕ Bool)) := (if x3_l0 < ((p0.edges.length : Int)) then (ix p0.edges x3_l0).bind fun a47 => bnd ((!(spec_l4State a47.from_ p0.states))) fun c55 => bnd ((c55 || (!(spec_l4State a47.to_ p0.states)))) fun c63 => bnd ((c63 || (!(spec_l1In a47.letter 0 ((W (p0.letters - 1))))))) fun c72 => (whenO (!c72) (chk (decide (0 ≤ p0.sets)))).bind fun u14 => bnd ((c72 || (!(spec_SetIn a47.marks ((W (((shl .i64 1 p0.sets)) - 1))))))) fun c82 => bnd ((decide (x3_l0 > 0))) fun c85 => (whenO ((!c82) && c85) (ix p0.edges ((W (x3_l0 - 1))))).bind fun a90 => (if (c82 || (c85 && (!(spec_l5Less a90 a47)))) = true then some (.inr ((.inr false))) else some (.inl ((W (x3_l0 + 1))))) else some (.inr ((.inl (())))))
noncomputable def spec_GenOk (p0 : TGen) : Option Bool := bnd ((!(spec_l1In p0.letters 1 8))) fun c9 => bnd ((c9 || (!(spec_l1In p0.states 0 31)))) fun c15 => (whenO (!c15) (chk (decide (0 ≤ p0.states)))).bind fun u1 => bnd ((c15 || (!(spec_SetIn p0.start ((W (((shl .i64 1 p0.states)) - 1))))))) fun c25 => bnd ((c25 || (!(spec_l1In p0.sets 0 4)))) fun c31 => (if (c31 || (decide (((p0.edges.length : Int)) > 2000))) = true then some false else (loop (fun s : Int => spec_GenOk.b0 p0 s) 0).bind (Sum.elim (fun q => spec_GenOk.k0) (fun q => some q)))

noncomputable def spec_l3Letters.k0 : Option Bool := some true
noncomputable def spec_l3Letters.b0 (p0 : (List Int)) (p1 : Int) (x5_l0 : Int) : Option (Int ⊕ (Unit ⊕ Bool)) := (if x5_l0 < ((p0.length : Int)) then (ix p0 x5_l0).bind fun a14 => (if (!(spec_l1In a14 0 ((W (p1 - 1))))) = true then some (.inr ((.inr false))) else some (.inl ((W (x5_l0 + 1))))) else some (.inr ((.inl (())))))
noncomputable def spec_l3Letters (p0 : (List Int)) (p1 : Int) : Option Bool := (loop (fun s : Int => spec_l3Letters.b0 p0 p1 s) 0).bind (Sum.elim (fun q => spec_l3Letters.k0) (fun q => some q))

noncomputable def spec_WordOk (p0 : TWord) (p1 : Int) : Option Bool := bnd ((!(spec_l1In p1 1 8))) fun c8 => bnd ((c8 || (decide (((p0.stem.length : Int)) > 40)))) fun c14 => (if (c14 || (!(spec_l1In ((p0.loop.length : Int)) 1 40))) = true then some false else (spec_l3Letters p0.stem p1).bind fun a24 => (whenO a24 (spec_l3Letters p0.loop p1)).bind fun a29 => some ((a24 && a29)))

noncomputable def spec_l1Bit (p0 : Int) : Option Int := (chk (decide (0 ≤ ((bAnd .i64 p0 31))))).bind fun u1 => some ((shl .i64 1 ((bAnd .i64 p0 31))))

noncomputable def spec_l6Succ.k0 (y4 : (List Int)) : Option (List Int) := some y4
noncomputable def spec_l6Succ.b0 (p0 : TGen) (p1 : Bool) (y6 : (List Int)) (x6_l0 : Int) : Option (((List Int) × Int) ⊕ (List Int)) := (if x6_l0 < ((p0.edges.length : Int)) then (ix p0.edges x6_l0).bind fun a22 => (if p1 = true then (ix y6 ((W (((W (8 * a22.to_))) + a22.letter)))).bind fun a39 => (spec_l1Bit a22.from_).bind fun a43 => (ck ((W (((W (8 * a22.to_))) + a22.letter))) y6.length).bind fun m45 => some (.inl (((y6.set m45 ((bOr .i64 a39 a43))), (W (x6_l0 + 1))))) else (ix y6 ((W (((W (8 * a22.from_))) + a22.letter)))).bind fun a60 => (spec_l1Bit a22.to_).bind fun a64 => (ck ((W (((W (8 * a22.from_))) + a22.letter))) y6.length).bind fun m66 => some (.inl (((y6.set m66 ((bOr .i64 a60 a64))), (W (x6_l0 + 1)))))) else some (.inr y6))
noncomputable def spec_l6Succ (p0 : TGen) (p1 : Bool) : Option (List Int) := (mk 8 (0 : Int) ((W (8 * p0.states)))).bind fun z11 => (loop (fun s : ((List Int) × Int) => spec_l6Succ.b0 p0 p1 s.1 s.2) ((z11, 0))).bind (fun q => spec_l6Succ.k0 q)

noncomputable def spec_l6Places (p0 : TWord) : Int := (W (((p0.stem.length : Int)) + ((p0.loop.length : Int))))

noncomputable def spec_l6After (p0 : TWord) (p1 : Int) : Int := (if ((W (p1 + 1))) = ((spec_l6Places p0)) then (p0.stem.length : Int) else (W (p1 + 1)))

noncomputable def spec_l3At (p0 : TWord) (p1 : Int) : Option Int := (if p1 < ((p0.stem.length : Int)) then (ix p0.stem p1).bind fun a13 => some a13 else (chk (decide (((p0.loop.length : Int)) ≠ 0))).bind fun u2 => (ix p0.loop ((Int.tmod ((W (p1 - ((p0.stem.length : Int))))) ((p0.loop.length : Int))))).bind fun a26 => some a26)

noncomputable def spec_l1Has (p0 : Int) (p1 : Int) : Option Bool := bnd ((spec_l1In p1 0 30)) fun c7 => (whenO c7 (spec_l1Bit p1)).bind fun a10 => some ((c7 && (decide (((bAnd .i64 p0 a10)) ≠ 0))))

noncomputable def spec_l6Step.k0 (x7_1 : Int) : Option Int := some x7_1
noncomputable def spec_l6Step.b0 (p0 : (List Int)) (p1 : Int) (p2 : Int) (x7_l0 : Int) (x8_l0 : Int) : Option ((Int × Int) ⊕ Int) := (if ((W (8 * x8_l0))) < ((p0.length : Int)) then (spec_l1Has p1 x8_l0).bind fun a18 => (if a18 = true then (ix p0 ((W (((W (8 * x8_l0))) + p2)))).bind fun a25 => some (.inl (((bOr .i64 x7_l0 a25), (W (x8_l0 + 1))))) else some (.inl ((x7_l0, (W (x8_l0 + 1)))))) else some (.inr x7_l0))
noncomputable def spec_l6Step (p0 : (List Int)) (p1 : Int) (p2 : Int) : Option Int := (loop (fun s : (Int × Int) => spec_l6Step.b0 p0 p1 p2 s.1 s.2) ((0, 0))).bind (fun q => spec_l6Step.k0 q)

noncomputable def spec_l6From.k0 (y6 : (List Int)) : Option (List Int) := some y6
noncomputable def spec_l6From.b1 (p1 : TWord) (p0 : (List Int)) (y16 : (List Int)) (x8_l1 : Bool) (x9_l1 : Int) : Option (((List Int) × Bool × Int) ⊕ ((List Int) × Bool)) := (if x9_l1 < ((y16.length : Int)) then (ix y16 ((spec_l6After p1 x9_l1))).bind fun a27 => (ix y16 x9_l1).bind fun a32 => (spec_l3At p1 x9_l1).bind fun a36 => (spec_l6Step p0 a32 a36).bind fun a37 => (ix y16 ((spec_l6After p1 x9_l1))).bind fun a42 => (if ((bOr .i64 a27 a37)) ≠ a42 then (ck ((spec_l6After p1 x9_l1)) y16.length).bind fun m48 => some (.inl (((y16.set m48 ((bOr .i64 a27 a37))), true, (W (x9_l1 + 1))))) else some (.inl ((y16, x8_l1, (W (x9_l1 + 1)))))) else some (.inr ((y16, x8_l1))))
noncomputable def spec_l6From.b0 (p1 : TWord) (p0 : (List Int)) (y8 : (List Int)) (x8_l0 : Bool) : Option (((List Int) × Bool) ⊕ (List Int)) := (if x8_l0 = true then (loop (fun s : ((List Int) × Bool × Int) => spec_l6From.b1 p1 p0 s.1 s.2.1 s.2.2) ((y8, false, 0))).bind (fun q => some (.inl q)) else some (.inr y8))
noncomputable def spec_l6From (p0 : (List Int)) (p1 : TWord) (p2 : (List Int)) : Option (List Int) := (app 8 ([]) p2).bind fun z14 => (loop (fun s : ((List Int) × Bool) => spec_l6From.b0 p1 p0 s.1 s.2) ((z14, true))).bind (fun q => spec_l6From.k0 q)

noncomputable def spec_l6Comps.k1 (y15 : (List Int)) : Option (List Int) := some y15
noncomputable def spec_l6Comps.k2 (x13_l0 : Int) (y25 : (List Int)) : Option (((List Int) × Int) ⊕ (List Int)) := some (.inl ((y25, (W (x13_l0 + 1)))))
noncomputable def spec_l6Comps.b1 (y12 : (List (List Int))) (x13_l0 : Int) (p0 : TGen) (y30 : (List Int)) (x14_l1 : Int) : Option (((List Int) × Int) ⊕ (List Int)) := (if x14_l1 < ((y30.length : Int)) then (ix y12 x13_l0).bind fun a110 => (chk (decide (p0.states ≠ 0))).bind fun u38 => (ix a110 ((quo .i64 x14_l1 p0.states))).bind fun a116 => (chk (decide (p0.states ≠ 0))).bind fun u39 => (spec_l1Has a116 ((Int.tmod x14_l1 p0.states))).bind fun a122 => (whenO a122 (ix y12 x14_l1)).bind fun a126 => (whenO a122 (chk (decide (p0.states ≠ 0)))).bind fun u40 => (whenO a122 (ix a126 ((quo .i64 x13_l0 p0.states)))).bind fun a132 => (whenO a122 (chk (decide (p0.states ≠ 0)))).bind fun u41 => (whenO a122 (spec_l1Has a132 ((Int.tmod x13_l0 p0.states)))).bind fun a138 => (if (a122 && a138) = true then (ck x14_l1 y30.length).bind fun m143 => some (.inl (((y30.set m143 x13_l0), (W (x14_l1 + 1))))) else some (.inl ((y30, (W (x14_l1 + 1)))))) else some (.inr y30))
noncomputable def spec_l6Comps.b0 (p0 : TGen) (a28 : (List Int)) (y12 : (List (List Int))) (y17 : (List Int)) (x13_l0 : Int) : Option (((List Int) × Int) ⊕ (List Int)) := (if x13_l0 < ((y17.length : Int)) then (ix y17 x13_l0).bind fun a83 => bnd ((decide (a83 ≥ 0))) fun c86 => (whenO (!c86) (chk (decide (p0.states ≠ 0)))).bind fun u27 => (whenO (!c86) (ix a28 ((quo .i64 x13_l0 p0.states)))).bind fun a92 => (whenO (!c86) (chk (decide (p0.states ≠ 0)))).bind fun u28 => (whenO (!c86) (spec_l1Has a92 ((Int.tmod x13_l0 p0.states)))).bind fun a98 => (if (c86 || (!a98)) = true then spec_l6Comps.k2 x13_l0 y17 else (loop (fun s : ((List Int) × Int) => spec_l6Comps.b1 y12 x13_l0 p0 s.1 s.2) ((y17, x13_l0))).bind (fun q => spec_l6Comps.k2 x13_l0 q)) else some (.inr y17))
noncomputable def spec_l6Comps.k0 (p0 : TGen) (a28 : (List Int)) (y9 : (List Int)) (y12 : (List (List Int))) : Option (List Int) := (loop (fun s : ((List Int) × Int) => spec_l6Comps.b0 p0 a28 y12 s.1 s.2) ((y9, 0))).bind (fun q => spec_l6Comps.k1 q)
noncomputable def spec_l6Comps.b2 (p1 : TWord) (p0 : TGen) (a28 : (List Int)) (a16 : (List Int)) (y45 : (List Int)) (y48 : (List (List Int))) (x11_l2 : Int) : Option (((List Int) × (List (List Int)) × Int) ⊕ ((List Int) × (List (List Int)))) := (if x11_l2 < ((W (((spec_l6Places p1)) * p0.states))) then (app 8 y45 ([(-1)])).bind fun z41 => (mk 8 (0 : Int) ((spec_l6Places p1))).bind fun z43 => (chk (decide (p0.states ≠ 0))).bind fun u62 => (ix a28 ((quo .i64 x11_l2 p0.states))).bind fun a49 => (chk (decide (p0.states ≠ 0))).bind fun u63 => (spec_l1Has a49 ((Int.tmod x11_l2 p0.states))).bind fun a55 => (if a55 = true then (chk (decide (p0.states ≠ 0))).bind fun u65 => (chk (decide (p0.states ≠ 0))).bind fun u66 => (spec_l1Bit ((Int.tmod x11_l2 p0.states))).bind fun a65 => (ck ((quo .i64 x11_l2 p0.states)) z43.length).bind fun m66 => (spec_l6From a16 p1 ((z43.set m66 a65))).bind fun a70 => (app 24 y48 ([a70])).bind fun z74 => some (.inl ((z41, z74, (W (x11_l2 + 1))))) else (app 24 y48 ([z43])).bind fun z74 => some (.inl ((z41, z74, (W (x11_l2 + 1)))))) else some (.inr ((y45, y48))))
noncomputable def spec_l6Comps (p0 : TGen) (p1 : TWord) : Option (List Int) := (spec_l6Succ p0 false).bind fun a16 => (mk 8 (0 : Int) ((spec_l6Places p1))).bind fun z20 => (ck 0 z20.length).bind fun m24 => (spec_l6From a16 p1 ((z20.set m24 p0.start))).bind fun a28 => (loop (fun s : ((List Int) × (List (List Int)) × Int) => spec_l6Comps.b2 p1 p0 a28 a16 s.1 s.2.1 s.2.2) (([], [], 0))).bind (fun q => spec_l6Comps.k0 p0 a28 q.1 q.2)

noncomputable def spec_GenTakes.k1 : Option Bool := some false
noncomputable def spec_GenTakes.b0 (y6 : (List Int)) (y7 : (List Bool)) (p0 : TGen) (x12_l0 : Int) : Option (Int ⊕ (Unit ⊕ Bool)) := (if x12_l0 < ((y6.length : Int)) then (ix y7 x12_l0).bind fun a124 => (whenO a124 (ix y6 x12_l0)).bind fun a129 => (whenO a124 (chk (decide (0 ≤ p0.sets)))).bind fun u16 => (if (a124 && (decide (a129 = ((W (((shl .i64 1 p0.sets)) - 1)))))) = true then some (.inr ((.inr true))) else some (.inl ((W (x12_l0 + 1))))) else some (.inr ((.inl (())))))
noncomputable def spec_GenTakes.k0 (p0 : TGen) (y6 : (List Int)) (y7 : (List Bool)) : Option Bool := (loop (fun s : Int => spec_GenTakes.b0 y6 y7 p0 s) 0).bind (Sum.elim (fun q => spec_GenTakes.k1) (fun q => some q))
noncomputable def spec_GenTakes.k2 (x8_l1 : Int) (y28 : (List Int)) (y29 : (List Bool)) : Option (((List Int) × (List Bool) × Int) ⊕ ((List Int) × (List Bool))) := some (.inl ((y28, y29, (W (x8_l1 + 1)))))
noncomputable def spec_GenTakes.b2 (p0 : TGen) (p1 : TWord) (x8_l1 : Int) (a30 : (List Int)) (y31 : (List Int)) (y32 : (List Bool)) (x9_l2 : Int) : Option (((List Int) × (List Bool) × Int) ⊕ ((List Int) × (List Bool))) := (if x9_l2 < ((p0.edges.length : Int)) then (ix p0.edges x9_l2).bind fun a53 => (spec_l3At p1 x8_l1).bind fun a66 => bnd ((decide (a53.letter = a66))) fun c68 => (whenO c68 (ix a30 ((W (((W (x8_l1 * p0.states))) + a53.from_))))).bind fun a71 => bnd ((c68 && (decide (a71 ≥ 0)))) fun c75 => (whenO c75 (ix a30 ((W (((W (x8_l1 * p0.states))) + a53.from_))))).bind fun a78 => (whenO c75 (ix a30 ((W (((W (((spec_l6After p1 x8_l1)) * p0.states))) + a53.to_))))).bind fun a90 => (if (c75 && (decide (a78 = a90))) = true then (ix a30 ((W (((W (x8_l1 * p0.states))) + a53.from_)))).bind fun a97 => (ck a97 y32.length).bind fun m99 => (ix a30 ((W (((W (x8_l1 * p0.states))) + a53.from_)))).bind fun a103 => (ix a30 ((W (((W (x8_l1 * p0.states))) + a53.from_)))).bind fun a108 => (ix y31 a108).bind fun a110 => (ck a103 y31.length).bind fun m115 => some (.inl (((y31.set m115 ((bOr .i64 a110 a53.marks))), (y32.set m99 true), (W (x9_l2 + 1))))) else some (.inl ((y31, y32, (W (x9_l2 + 1)))))) else some (.inr ((y31, y32))))
noncomputable def spec_GenTakes.b1 (p1 : TWord) (p0 : TGen) (a30 : (List Int)) (y19 : (List Int)) (y20 : (List Bool)) (x8_l1 : Int) : Option (((List Int) × (List Bool) × Int) ⊕ ((List Int) × (List Bool))) := (if x8_l1 < ((spec_l6Places p1)) then (loop (fun s : ((List Int) × (List Bool) × Int) => spec_GenTakes.b2 p0 p1 x8_l1 a30 s.1 s.2.1 s.2.2) ((y19, y20, 0))).bind (fun q => spec_GenTakes.k2 x8_l1 q.1 q.2) else some (.inr ((y19, y20))))
noncomputable def spec_GenTakes (p0 : TGen) (p1 : TWord) : Option Bool := (spec_GenOk p0).bind fun a14 => bnd ((!a14)) fun c16 => (whenO (!c16) (spec_WordOk p1 p0.letters)).bind fun a20 => bnd ((c16 || (!a20))) fun c23 => (if (c23 || (decide (p0.states = 0))) = true then some false else (spec_l6Comps p0 p1).bind fun a30 => (mk 8 (0 : Int) ((a30.length : Int))).bind fun z33 => (mk 1 false ((a30.length : Int))).bind fun z36 => (loop (fun s : ((List Int) × (List Bool) × Int) => spec_GenTakes.b1 p1 p0 a30 s.1 s.2.1 s.2.2) ((z33, z36, 0))).bind (fun q => spec_GenTakes.k0 p0 q.1 q.2))

noncomputable def impl_inRange (p0 : Int) (p1 : Int) (p2 : Int) : Bool := bnd ((decide (p0 ≥ p1))) fun c10 => (c10 && (decide (p0 ≤ p2)))

noncomputable def impl_isLetters (p0 : Int) : Bool := (impl_inRange p0 1 8)

noncomputable def impl_SetOk (p0 : Int) : Bool := (impl_inRange p0 0 2147483647)

noncomputable def impl_only (p0 : Int) : Int := (shl .i64 1 ((IntKind.u64.wrap p0)))

noncomputable def impl_headOk (p0 : Int) (p1 : Int) (p2 : Int) : Bool := bnd ((impl_isLetters p0)) fun c9 => bnd ((c9 && (impl_inRange p1 0 31))) fun c13 => bnd ((c13 && (impl_SetOk p2))) fun c17 => (c17 && (decide (p2 < ((impl_only p1)))))

noncomputable def cmp_isNaN_int (p0 : Int) : Bool := (decide (p0 ≠ p0))

noncomputable def cmp_Compare_int (p0 : Int) (p1 : Int) : Int := (if (cmp_isNaN_int p0) = true then (if (cmp_isNaN_int p1) = true then 0 else (-1)) else (if (cmp_isNaN_int p1) = true then 1 else (if p0 < p1 then (-1) else (if p0 > p1 then 1 else 0))))

noncomputable def cmp_Or_int.k0 : Option Int := some 0
noncomputable def cmp_Or_int.b0 (p0 : (List Int)) (x8_l0 : Int) : Option (Int ⊕ (Unit ⊕ Int)) := (if x8_l0 < ((p0.length : Int)) then (ix p0 x8_l0).bind fun a10 => (if a10 ≠ 0 then some (.inr ((.inr a10))) else some (.inl ((W (x8_l0 + 1))))) else some (.inr ((.inl (())))))
noncomputable def cmp_Or_int (p0 : (List Int)) : Option Int := (loop (fun s : Int => cmp_Or_int.b0 p0 s) 0).bind (Sum.elim (fun q => cmp_Or_int.k0) (fun q => some q))

noncomputable def impl_compareGEdges (p0 : TGEdge) (p1 : TGEdge) : Option Int := (cmp_Or_int ([(cmp_Compare_int p0.from_ p1.from_), (cmp_Compare_int p0.letter p1.letter), (cmp_Compare_int p0.to_ p1.to_)])).bind fun a21 => some a21

noncomputable def impl_GenOk.k0 : Option Bool := some true
noncomputable def impl_GenOk.b0 (p0 : TGen) (x28_l0 : Int) : Option (Int ⊕ (Unit ⊕ Bool)) := (if x28_l0 < ((p0.edges.length : Int)) then (ix p0.edges x28_l0).bind fun a31 => bnd ((!(impl_inRange a31.from_ 0 ((W (p0.states - 1)))))) fun c40 => bnd ((c40 || (!(impl_inRange a31.to_ 0 ((W (p0.states - 1))))))) fun c49 => (if (c49 || (!(impl_inRange a31.letter 0 ((W (p0.letters - 1)))))) = true then some (.inr ((.inr false))) else bnd ((!(impl_inRange a31.marks 0 ((W (((impl_only p0.sets)) - 1)))))) fun c66 => bnd ((decide (x28_l0 > 0))) fun c69 => (whenO ((!c66) && c69) (ix p0.edges ((W (x28_l0 - 1))))).bind fun a74 => (whenO ((!c66) && c69) (impl_compareGEdges a74 a31)).bind fun a77 => (if (c66 || (c69 && (decide (a77 ≥ 0)))) = true then some (.inr ((.inr false))) else some (.inl ((W (x28_l0 + 1)))))) else some (.inr ((.inl (())))))
noncomputable def impl_GenOk (p0 : TGen) : Option Bool := bnd ((!(impl_headOk p0.letters p0.states p0.start))) fun c13 => bnd ((c13 || (!(impl_inRange p0.sets 0 4)))) fun c19 => (if (c19 || (decide (((p0.edges.length : Int)) > 2000))) = true then some false else (loop (fun s : Int => impl_GenOk.b0 p0 s) 0).bind (Sum.elim (fun q => impl_GenOk.k0) (fun q => some q)))

noncomputable def impl_areLetters.k0 : Option Bool := some true
noncomputable def impl_areLetters.b0 (p0 : (List Int)) (p1 : Int) (x9_l0 : Int) : Option (Int ⊕ (Unit ⊕ Bool)) := (if x9_l0 < ((p0.length : Int)) then (ix p0 x9_l0).bind fun a11 => (if (!(impl_inRange a11 0 ((W (p1 - 1))))) = true then some (.inr ((.inr false))) else some (.inl ((W (x9_l0 + 1))))) else some (.inr ((.inl (())))))
noncomputable def impl_areLetters (p0 : (List Int)) (p1 : Int) : Option Bool := (loop (fun s : Int => impl_areLetters.b0 p0 p1 s) 0).bind (Sum.elim (fun q => impl_areLetters.k0) (fun q => some q))

noncomputable def impl_WordOk (p0 : TWord) (p1 : Int) : Option Bool := bnd ((!(impl_isLetters p1))) fun c8 => bnd ((c8 || (decide (((p0.stem.length : Int)) > 40)))) fun c14 => (if (c14 || (!(impl_inRange ((p0.loop.length : Int)) 1 40))) = true then some false else (impl_areLetters p0.stem p1).bind fun a24 => (whenO a24 (impl_areLetters p0.loop p1)).bind fun a29 => some ((a24 && a29)))

noncomputable def impl_Word_places (p0 : TWord) : Int := (W (((p0.stem.length : Int)) + ((p0.loop.length : Int))))

noncomputable def impl_graphOf (p0 : Int) : Option Tgraph := (mk 24 ([] : (List Tstep)) p0).bind fun z4 => some ((Tgraph.mk z4))

noncomputable def impl_Word_letter (p0 : TWord) (p1 : Int) : Option Int := (if p1 < ((p0.stem.length : Int)) then (ix p0.stem p1).bind fun a17 => some a17 else (ix p0.loop ((W (p1 - ((p0.stem.length : Int)))))).bind fun a30 => some a30)

noncomputable def impl_Word_next (p0 : TWord) (p1 : Int) : Int := (if ((W (p1 + 1))) = ((impl_Word_places p0)) then (p0.stem.length : Int) else (W (p1 + 1)))

noncomputable def impl_graph_add (p0 : Tgraph) (p1 : Int) (p2 : Int) (p3 : Int) : Option Tgraph := (ck p1 p0.next_.length).bind fun m18 => (app 16 ((p0.next_.getD m18 [])) ([(Tstep.mk p2 p3)])).bind fun z24 => (ck p1 p0.next_.length).bind fun m25 => some ((Tgraph.mk ((p0.next_.set m18 z24))))

noncomputable def impl_pointsBy.k0 (y7 : (List (List Tstep))) : Option Tgraph := some ((Tgraph.mk y7))
noncomputable def impl_pointsBy.k1 (x16_l0 : Int) (y25 : (List (List Tstep))) : Option (((List (List Tstep)) × Int) ⊕ (List (List Tstep))) := some (.inl ((y25, (W (x16_l0 + 1)))))
noncomputable def impl_pointsBy.b1 (p1 : (List TGEdge)) (p2 : TWord) (x16_l0 : Int) (p0 : Int) (y30 : (List (List Tstep))) (x21_l1 : Int) : Option (((List (List Tstep)) × Int) ⊕ (List (List Tstep))) := (if x21_l1 < ((p1.length : Int)) then (ix p1 x21_l1).bind fun a23 => (impl_Word_letter p2 x16_l0).bind fun a28 => (if a23.letter = a28 then (impl_graph_add ((Tgraph.mk y30)) ((W (((W (x16_l0 * p0))) + a23.from_))) ((W (((W (((impl_Word_next p2 x16_l0)) * p0))) + a23.to_))) a23.marks).bind fun a46 => some (.inl ((a46.next_, (W (x21_l1 + 1))))) else some (.inl ((y30, (W (x21_l1 + 1)))))) else some (.inr y30))
noncomputable def impl_pointsBy.b0 (p2 : TWord) (p1 : (List TGEdge)) (p0 : Int) (y14 : (List (List Tstep))) (x16_l0 : Int) : Option (((List (List Tstep)) × Int) ⊕ (List (List Tstep))) := (if x16_l0 < ((impl_Word_places p2)) then (loop (fun s : ((List (List Tstep)) × Int) => impl_pointsBy.b1 p1 p2 x16_l0 p0 s.1 s.2) ((y14, 0))).bind (fun q => impl_pointsBy.k1 x16_l0 q) else some (.inr y14))
noncomputable def impl_pointsBy (p0 : Int) (p1 : (List TGEdge)) (p2 : TWord) : Option Tgraph := (impl_graphOf ((W (((impl_Word_places p2)) * p0)))).bind fun a14 => (loop (fun s : ((List (List Tstep)) × Int) => impl_pointsBy.b0 p2 p1 p0 s.1 s.2) ((a14.next_, 0))).bind (fun q => impl_pointsBy.k0 q)

noncomputable def impl_has (p0 : Int) (p1 : Int) : Bool := (decide (((bAnd .i64 ((shr .i64 p0 ((IntKind.u64.wrap p1)))) 1)) = 1))

noncomputable def impl_SetList.k0 (y5 : (List Int)) : Option (List Int) := some y5
noncomputable def impl_SetList.b0 (p0 : Int) (y9 : (List Int)) (x8_l0 : Int) : Option (((List Int) × Int) ⊕ (List Int)) := (if x8_l0 < 31 then (if (impl_has p0 x8_l0) = true then (app 8 y9 ([x8_l0])).bind fun z17 => some (.inl ((z17, (W (x8_l0 + 1))))) else some (.inl ((y9, (W (x8_l0 + 1)))))) else some (.inr y9))
noncomputable def impl_SetList (p0 : Int) : Option (List Int) := (if (!(impl_SetOk p0)) = true then some ([]) else (loop (fun s : ((List Int) × Int) => impl_SetList.b0 p0 s.1 s.2) (([], 0))).bind (fun q => impl_SetList.k0 q))

noncomputable def impl_graph_far.k2 (y10 : (List Int)) : Option (List Int) := some y10
noncomputable def impl_graph_far.k3 (x10_l0 : Int) (y23 : (List Int)) (y24 : (List Int)) : Option (((List Int) × (List Int) × Int) ⊕ (List Int)) := some (.inl ((y23, y24, (W (x10_l0 + 1)))))
noncomputable def impl_graph_far.b1 (a63 : (List Tstep)) (a56 : Int) (y28 : (List Int)) (y29 : (List Int)) (x66_l1 : Int) : Option (((List Int) × (List Int) × Int) ⊕ ((List Int) × (List Int))) := (if x66_l1 < ((a63.length : Int)) then (ix a63 x66_l1).bind fun a68 => (ix y28 a68.to_).bind fun a73 => (if a73 < 0 then (ix y28 a56).bind fun a81 => (ck a68.to_ y28.length).bind fun m84 => (app 8 y29 ([a68.to_])).bind fun z89 => some (.inl (((y28.set m84 ((W (a81 + 1)))), z89, (W (x66_l1 + 1))))) else some (.inl ((y28, y29, (W (x66_l1 + 1)))))) else some (.inr ((y28, y29))))
noncomputable def impl_graph_far.b0 (p0 : Tgraph) (y12 : (List Int)) (y13 : (List Int)) (x10_l0 : Int) : Option (((List Int) × (List Int) × Int) ⊕ (List Int)) := (if x10_l0 < ((y13.length : Int)) then (ix y13 x10_l0).bind fun a56 => (ix p0.next_ a56).bind fun a63 => (loop (fun s : ((List Int) × (List Int) × Int) => impl_graph_far.b1 a63 a56 s.1 s.2.1 s.2.2) ((y12, y13, 0))).bind (fun q => impl_graph_far.k3 x10_l0 q.1 q.2) else some (.inr y12))
noncomputable def impl_graph_far.k1 (p0 : Tgraph) (y6 : (List Int)) (y7 : (List Int)) : Option (List Int) := (loop (fun s : ((List Int) × (List Int) × Int) => impl_graph_far.b0 p0 s.1 s.2.1 s.2.2) ((y6, y7, 0))).bind (fun q => impl_graph_far.k2 q)
noncomputable def impl_graph_far.b2 (p1 : (List Int)) (y47 : (List Int)) (y48 : (List Int)) (x31_l2 : Int) : Option (((List Int) × (List Int) × Int) ⊕ ((List Int) × (List Int))) := (if x31_l2 < ((p1.length : Int)) then (ix p1 x31_l2).bind fun a33 => (ix y47 a33).bind fun a37 => (if a37 < 0 then (ck a33 y47.length).bind fun m42 => (app 8 y48 ([a33])).bind fun z46 => some (.inl (((y47.set m42 0), z46, (W (x31_l2 + 1))))) else some (.inl ((y47, y48, (W (x31_l2 + 1)))))) else some (.inr ((y47, y48))))
noncomputable def impl_graph_far.k0 (p1 : (List Int)) (p0 : Tgraph) (y4 : (List Int)) : Option (List Int) := (loop (fun s : ((List Int) × (List Int) × Int) => impl_graph_far.b2 p1 s.1 s.2.1 s.2.2) ((y4, [], 0))).bind (fun q => impl_graph_far.k1 p0 q.1 q.2)
noncomputable def impl_graph_far.b3 (z19 : (List Int)) (y63 : (List Int)) (x22_l3 : Int) : Option (((List Int) × Int) ⊕ (List Int)) := (if x22_l3 < ((z19.length : Int)) then (ck x22_l3 y63.length).bind fun m27 => some (.inl (((y63.set m27 ((-1))), (W (x22_l3 + 1))))) else some (.inr y63))
noncomputable def impl_graph_far (p0 : Tgraph) (p1 : (List Int)) : Option (List Int) := (mk 8 (0 : Int) ((p0.next_.length : Int))).bind fun z19 => (loop (fun s : ((List Int) × Int) => impl_graph_far.b3 z19 s.1 s.2) ((z19, 0))).bind (fun q => impl_graph_far.k0 p1 p0 q)

noncomputable def impl_graph_finished.k0 (y5 : (List Int)) : Option (List Int) := some y5
noncomputable def impl_graph_finished.k1 (x20_l0 : Int) (y20 : (List Int)) (y23 : (List Bool)) : Option (((List Int) × (List Bool) × Int) ⊕ (List Int)) := some (.inl ((y20, y23, (W (x20_l0 + 1)))))
noncomputable def impl_graph_finished.b1 (p0 : Tgraph) (y29 : (List Int)) (y32 : (List Bool)) (y33 : (List Tplace)) : Option (((List Int) × (List Bool) × (List Tplace)) ⊕ ((List Int) × (List Bool))) := (if ((y33.length : Int)) > 0 then (ck ((W (((y33.length : Int)) - 1))) y33.length).bind fun m40 => (ix p0.next_ (((y33.getD m40 default)).point)).bind fun a53 => (if (((y33.getD m40 default)).at_) = ((a53.length : Int)) then (app 8 y29 ([((y33.getD m40 default)).point])).bind fun z63 => (cut y33 0 ((W (((y33.length : Int)) - 1)))).bind fun a68 => some (.inl ((z63, y32, a68))) else (ix p0.next_ (((y33.getD m40 default)).point)).bind fun a77 => (ix a77 (((y33.getD m40 default)).at_)).bind fun a83 => (ix y32 a83.to_).bind fun a95 => (if (!a95) = true then (ck a83.to_ y32.length).bind fun m100 => (app 16 ((y33.set m40 ((fun q : Tplace => { q with at_ := (W ((((y33.getD m40 default)).at_) + 1)) }) (y33.getD m40 default)))) ([(Tplace.mk a83.to_ 0)])).bind fun z105 => some (.inl ((y29, (y32.set m100 true), z105))) else some (.inl ((y29, y32, (y33.set m40 ((fun q : Tplace => { q with at_ := (W ((((y33.getD m40 default)).at_) + 1)) }) (y33.getD m40 default)))))))) else some (.inr ((y29, y32))))
noncomputable def impl_graph_finished.b0 (p0 : Tgraph) (y9 : (List Int)) (y12 : (List Bool)) (x20_l0 : Int) : Option (((List Int) × (List Bool) × Int) ⊕ (List Int)) := (if x20_l0 < ((p0.next_.length : Int)) then (ix y12 x20_l0).bind fun a25 => (if a25 = true then impl_graph_finished.k1 x20_l0 y9 y12 else (ck x20_l0 y12.length).bind fun m29 => (loop (fun s : ((List Int) × (List Bool) × (List Tplace)) => impl_graph_finished.b1 p0 s.1 s.2.1 s.2.2) ((y9, (y12.set m29 true), [(Tplace.mk x20_l0 0)]))).bind (fun q => impl_graph_finished.k1 x20_l0 q.1 q.2)) else some (.inr y9))
noncomputable def impl_graph_finished (p0 : Tgraph) : Option (List Int) := (mk 1 false ((p0.next_.length : Int))).bind fun z14 => (loop (fun s : ((List Int) × (List Bool) × Int) => impl_graph_finished.b0 p0 s.1 s.2.1 s.2.2) (([], z14, 0))).bind (fun q => impl_graph_finished.k0 q)

noncomputable def impl_graph_back.k0 (y7 : (List (List Tstep))) : Option Tgraph := some ((Tgraph.mk y7))
noncomputable def impl_graph_back.k1 (x19_l0 : Int) (y25 : (List (List Tstep))) : Option (((List (List Tstep)) × Int) ⊕ (List (List Tstep))) := some (.inl ((y25, (W (x19_l0 + 1)))))
noncomputable def impl_graph_back.b1 (a22 : (List Tstep)) (x19_l0 : Int) (y30 : (List (List Tstep))) (x26_l1 : Int) : Option (((List (List Tstep)) × Int) ⊕ (List (List Tstep))) := (if x26_l1 < ((a22.length : Int)) then (ix a22 x26_l1).bind fun a28 => (impl_graph_add ((Tgraph.mk y30)) a28.to_ x19_l0 a28.marks).bind fun a36 => some (.inl ((a36.next_, (W (x26_l1 + 1))))) else some (.inr y30))
noncomputable def impl_graph_back.b0 (p0 : Tgraph) (y14 : (List (List Tstep))) (x19_l0 : Int) : Option (((List (List Tstep)) × Int) ⊕ (List (List Tstep))) := (if x19_l0 < ((p0.next_.length : Int)) then (ix p0.next_ x19_l0).bind fun a22 => (loop (fun s : ((List (List Tstep)) × Int) => impl_graph_back.b1 a22 x19_l0 s.1 s.2) ((y14, 0))).bind (fun q => impl_graph_back.k1 x19_l0 q) else some (.inr y14))
noncomputable def impl_graph_back (p0 : Tgraph) : Option Tgraph := (impl_graphOf ((p0.next_.length : Int))).bind fun a13 => (loop (fun s : ((List (List Tstep)) × Int) => impl_graph_back.b0 p0 s.1 s.2) ((a13.next_, 0))).bind (fun q => impl_graph_back.k0 q)

noncomputable def slices_Reverse_int_int.b0 (y2 : (List Int)) (x2_l0 : Int) (x3_l0 : Int) : Option (((List Int) × Int × Int) ⊕ (List Int)) := (if x2_l0 < x3_l0 then (ix y2 x3_l0).bind fun a20 => (ix y2 x2_l0).bind fun a24 => (ck x2_l0 y2.length).bind fun m26 => (ck x3_l0 ((y2.set m26 a20)).length).bind fun m27 => some (.inl (((((y2.set m26 a20)).set m27 a24), (W (x2_l0 + 1)), (W (x3_l0 - 1))))) else some (.inr y2))
noncomputable def slices_Reverse_int_int (p0 : (List Int)) : Option (List Int) := (loop (fun s : ((List Int) × Int × Int) => slices_Reverse_int_int.b0 s.1 s.2.1 s.2.2) ((p0, 0, (W (((p0.length : Int)) - 1))))).bind (fun q => some q)

noncomputable def impl_graph_rings.k1 (y8 : (List Int)) : Option (List Int) := some y8
noncomputable def impl_graph_rings.k2 (x36_l0 : Int) (y18 : (List Int)) : Option (((List Int) × Int) ⊕ (List Int)) := some (.inl ((y18, (W (x36_l0 + 1)))))
noncomputable def impl_graph_rings.b2 (a71 : (List Tstep)) (x36_l0 : Int) (y37 : (List Int)) (y38 : (List Int)) (x74_l2 : Int) : Option (((List Int) × (List Int) × Int) ⊕ ((List Int) × (List Int))) := (if x74_l2 < ((a71.length : Int)) then (ix a71 x74_l2).bind fun a76 => (ix y37 a76.to_).bind fun a81 => (if a81 < 0 then (ck a76.to_ y37.length).bind fun m88 => (app 8 y38 ([a76.to_])).bind fun z93 => some (.inl (((y37.set m88 x36_l0), z93, (W (x74_l2 + 1))))) else some (.inl ((y37, y38, (W (x74_l2 + 1)))))) else some (.inr ((y37, y38))))
noncomputable def impl_graph_rings.b1 (a16 : Tgraph) (x36_l0 : Int) (y24 : (List Int)) (y25 : (List Int)) : Option (((List Int) × (List Int)) ⊕ (List Int)) := (if ((y25.length : Int)) > 0 then (ix y25 ((W (((y25.length : Int)) - 1)))).bind fun a59 => (cut y25 0 ((W (((y25.length : Int)) - 1)))).bind fun a65 => (ix a16.next_ a59).bind fun a71 => (loop (fun s : ((List Int) × (List Int) × Int) => impl_graph_rings.b2 a71 x36_l0 s.1 s.2.1 s.2.2) ((y24, a65, 0))).bind (fun q => some (.inl q)) else some (.inr y24))
noncomputable def impl_graph_rings.b0 (a33 : (List Int)) (a16 : Tgraph) (y10 : (List Int)) (x36_l0 : Int) : Option (((List Int) × Int) ⊕ (List Int)) := (if x36_l0 < ((a33.length : Int)) then (ix a33 x36_l0).bind fun a39 => (ix y10 a39).bind fun a43 => (if a43 ≥ 0 then impl_graph_rings.k2 x36_l0 y10 else (ck a39 y10.length).bind fun m49 => (loop (fun s : ((List Int) × (List Int)) => impl_graph_rings.b1 a16 x36_l0 s.1 s.2) (((y10.set m49 x36_l0), [a39]))).bind (fun q => impl_graph_rings.k2 x36_l0 q)) else some (.inr y10))
noncomputable def impl_graph_rings.k0 (a14 : (List Int)) (a16 : Tgraph) (y6 : (List Int)) : Option (List Int) := (slices_Reverse_int_int a14).bind fun a33 => (loop (fun s : ((List Int) × Int) => impl_graph_rings.b0 a33 a16 s.1 s.2) ((y6, 0))).bind (fun q => impl_graph_rings.k1 q)
noncomputable def impl_graph_rings.b3 (z22 : (List Int)) (y56 : (List Int)) (x25_l3 : Int) : Option (((List Int) × Int) ⊕ (List Int)) := (if x25_l3 < ((z22.length : Int)) then (ck x25_l3 y56.length).bind fun m30 => some (.inl (((y56.set m30 ((-1))), (W (x25_l3 + 1))))) else some (.inr y56))
noncomputable def impl_graph_rings (p0 : Tgraph) : Option (List Int) := (impl_graph_finished p0).bind fun a14 => (impl_graph_back p0).bind fun a16 => (mk 8 (0 : Int) ((p0.next_.length : Int))).bind fun z22 => (loop (fun s : ((List Int) × Int) => impl_graph_rings.b3 z22 s.1 s.2) ((z22, 0))).bind (fun q => impl_graph_rings.k0 a14 a16 q)

noncomputable def impl_isIn (p0 : Int) (p1 : Int) : Bool := (decide (((bNot .i64 p0 p1)) = 0))

/-- The marks of a ring: those of all steps from one of its points to another one. -/
noncomputable def livesAt (far rings : List Int) (next : List (List Tstep)) (p : Nat) (s : Tstep) : Option Bool := (ix far (p : Int)).bind fun a => (whenO (decide (a ≥ 0)) (ix rings (p : Int))).bind fun b => (whenO (decide (a ≥ 0)) (ix rings s.to_)).bind fun c => some (decide (a ≥ 0) && decide (b = c))
noncomputable def livesRow (far rings : List Int) (next : List (List Tstep)) (p : Nat) : List Tstep → List (Int × Int) → Option (List (Int × Int))
  | [], m => some m
  | s :: r, m => (livesAt far rings next p s).bind fun t => if t = true then (ix rings (p : Int)).bind fun k => (if (-9223372036854775808 ≤ k ∧ k ≤ 9223372036854775807) ∧ m.length < 4611686018427387904 then livesRow far rings next p r (m ++ [(k, s.marks)]) else none) else livesRow far rings next p r m
noncomputable def livesAll (far rings : List Int) (next : List (List Tstep)) : Nat → List (List Tstep) → List (Int × Int) → Option (List (Int × Int))
  | _, [], m => some m
  | p, l :: r, m => if p < 4611686018427387904 ∧ l.length < 4611686018427387904 then (livesRow far rings next p l m).bind fun m' => livesAll far rings next (p + 1) r m' else none
noncomputable def marksOf (m : List (Int × Int)) (k : Int) : Int := (m.filter fun x => decide (x.1 = k)).foldl (fun a x => bOr .i64 a x.2) 0
noncomputable def impl_graph_lives (p0 : Tgraph) (p1 : List Int) (p2 : Int) : Option Bool := (impl_graph_far p0 p1).bind fun far => (impl_graph_rings p0).bind fun rings => (livesAll far rings p0.next_ 0 p0.next_ []).bind fun m => some (m.any fun x => impl_isIn p2 (marksOf m x.1))

noncomputable def impl_GenTakes (p0 : TGen) (p1 : TWord) : Option Bool := (impl_GenOk p0).bind fun a6 => bnd ((!a6)) fun c8 => (whenO (!c8) (impl_WordOk p1 p0.letters)).bind fun a12 => (if (c8 || (!a12)) = true then some false else (impl_pointsBy p0.states p0.edges p1).bind fun a20 => (impl_SetList p0.start).bind fun a23 => (impl_graph_lives a20 a23 ((W (((impl_only p0.sets)) - 1)))).bind fun a28 => some a28)

noncomputable def laws_eqGEdge (p0 : TGEdge) (p1 : TGEdge) : Bool := (if p0.from_ ≠ p1.from_ then false else (if p0.letter ≠ p1.letter then false else (if p0.to_ ≠ p1.to_ then false else (if p0.marks ≠ p1.marks then false else true))))

noncomputable def laws_eqGEdgeS.k0 : Option Bool := some true
noncomputable def laws_eqGEdgeS.b0 (p0 : (List TGEdge)) (p1 : (List TGEdge)) (x5_l0 : Int) : Option (Int ⊕ (Unit ⊕ Bool)) := (if x5_l0 < ((p0.length : Int)) then (ix p0 x5_l0).bind fun a19 => (ix p1 x5_l0).bind fun a23 => (if (!(laws_eqGEdge a19 a23)) = true then some (.inr ((.inr false))) else some (.inl ((W (x5_l0 + 1))))) else some (.inr ((.inl (())))))
noncomputable def laws_eqGEdgeS (p0 : (List TGEdge)) (p1 : (List TGEdge)) : Option Bool := (if ((p0.length : Int)) ≠ ((p1.length : Int)) then some false else (loop (fun s : Int => laws_eqGEdgeS.b0 p0 p1 s) 0).bind (Sum.elim (fun q => laws_eqGEdgeS.k0) (fun q => some q)))

noncomputable def laws_eqGen (p0 : TGen) (p1 : TGen) : Option Bool := (if p0.letters ≠ p1.letters then some false else (if p0.states ≠ p1.states then some false else (if p0.start ≠ p1.start then some false else (if p0.sets ≠ p1.sets then some false else (laws_eqGEdgeS p0.edges p1.edges).bind fun a29 => (if (!a29) = true then some false else some true)))))

noncomputable def laws_eqIntS.k0 : Option Bool := some true
noncomputable def laws_eqIntS.b0 (p0 : (List Int)) (p1 : (List Int)) (x5_l0 : Int) : Option (Int ⊕ (Unit ⊕ Bool)) := (if x5_l0 < ((p0.length : Int)) then (ix p0 x5_l0).bind fun a19 => (ix p1 x5_l0).bind fun a23 => (if a19 ≠ a23 then some (.inr ((.inr false))) else some (.inl ((W (x5_l0 + 1))))) else some (.inr ((.inl (())))))
noncomputable def laws_eqIntS (p0 : (List Int)) (p1 : (List Int)) : Option Bool := (if ((p0.length : Int)) ≠ ((p1.length : Int)) then some false else (loop (fun s : Int => laws_eqIntS.b0 p0 p1 s) 0).bind (Sum.elim (fun q => laws_eqIntS.k0) (fun q => some q)))

noncomputable def laws_eqWord (p0 : TWord) (p1 : TWord) : Option Bool := (laws_eqIntS p0.stem p1.stem).bind fun a9 => (if (!a9) = true then some false else (laws_eqIntS p0.loop p1.loop).bind fun a15 => (if (!a15) = true then some false else some true))

noncomputable def laws_FnExactGenTakes (p0 : TGen) (p1 : TWord) : Option Bool := (if ((laws_szGen p0 1048576)) < 0 then some true else (if ((laws_szWord p1 ((laws_szGen p0 1048576)))) < 0 then some true else (laws_toGen p0).bind fun a21 => (laws_toWord p1).bind fun a23 => (spec_GenTakes ((TGen.mk a21.letters a21.states a21.start a21.sets a21.edges)) ((TWord.mk a23.stem a23.loop))).bind fun a24 => (laws_toGen p0).bind fun a26 => (laws_toWord p1).bind fun a28 => (impl_GenTakes ((TGen.mk a26.letters a26.states a26.start a26.sets a26.edges)) ((TWord.mk a28.stem a28.loop))).bind fun a31 => (if (!(a31 == a24)) = true then some false else (laws_toGen p0).bind fun a37 => (laws_eqGen ((TGen.mk a26.letters a26.states a26.start a26.sets a26.edges)) ((TGen.mk a37.letters a37.states a37.start a37.sets a37.edges))).bind fun a38 => (if (!a38) = true then some false else (laws_toWord p1).bind fun a42 => (laws_eqWord ((TWord.mk a28.stem a28.loop)) ((TWord.mk a42.stem a42.loop))).bind fun a43 => (if (!a43) = true then some false else some true)))))

end Go.Proofs.Ythdclobnmicdaaa
