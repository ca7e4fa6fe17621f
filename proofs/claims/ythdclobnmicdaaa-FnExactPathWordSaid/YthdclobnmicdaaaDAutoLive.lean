/- Plain functions that the program's functions come to: FnExactAutoLive. -/
import Derived.Test.YthdclobnmicdaaaTy
namespace Go.Proofs.Ythdclobnmicdaaa
open Go Go.RowKit E
set_option linter.unusedVariables false
noncomputable def laws_szEdgeS (p0 : (List TEdge)) (p1 : Int) : Int := (if ((W (p1 - ((p0.length : Int))))) < 0 then (-1) else (W (p1 - ((p0.length : Int)))))

noncomputable def laws_szAuto (p0 : TAuto) (p1 : Int) : Int := (if ((laws_szEdgeS p0.edges p1)) < 0 then (-1) else (laws_szEdgeS p0.edges p1))

noncomputable def laws_toEdge (p0 : TEdge) : TEdge := p0

noncomputable def laws_toEdgeS.k0 (y4 : (List TEdge)) : Option (List TEdge) := some y4
noncomputable def laws_toEdgeS.b0 (p0 : (List TEdge)) (y6 : (List TEdge)) (x4_l0 : Int) : Option (((List TEdge) × Int) ⊕ (List TEdge)) := (if x4_l0 < ((p0.length : Int)) then (ix p0 x4_l0).bind fun a18 => (ck x4_l0 y6.length).bind fun m21 => some (.inl (((y6.set m21 ((laws_toEdge a18))), (W (x4_l0 + 1))))) else some (.inr y6))
noncomputable def laws_toEdgeS (p0 : (List TEdge)) : Option (List TEdge) := (mk 32 (TEdge.mk (0 : Int) (0 : Int) (0 : Int) false) ((p0.length : Int))).bind fun z7 => (loop (fun s : ((List TEdge) × Int) => laws_toEdgeS.b0 p0 s.1 s.2) ((z7, 0))).bind (fun q => laws_toEdgeS.k0 q)

noncomputable def laws_toAuto (p0 : TAuto) : Option TAuto := (laws_toEdgeS p0.edges).bind fun a15 => some ((TAuto.mk p0.letters p0.states p0.start a15))

noncomputable def spec_l1In (p0 : Int) (p1 : Int) (p2 : Int) : Bool := bnd ((decide (p0 ≥ p1))) fun c10 => (c10 && (decide (p0 ≤ p2)))

noncomputable def spec_SetOk (p0 : Int) : Bool := (spec_l1In p0 0 2147483647)

noncomputable def spec_SetIn (p0 : Int) (p1 : Int) : Bool := bnd ((spec_SetOk p0)) fun c7 => bnd ((c7 && (spec_SetOk p1))) fun c11 => (c11 && (decide (((bAnd .i64 p0 p1)) = p0)))

noncomputable def spec_l4State (p0 : Int) (p1 : Int) : Bool := (spec_l1In p0 0 ((W (p1 - 1))))

noncomputable def spec_l4Less (p0 : TEdge) (p1 : TEdge) : Bool := (if p0.from_ ≠ p1.from_ then (decide (p0.from_ < p1.from_)) else (if p0.letter ≠ p1.letter then (decide (p0.letter < p1.letter)) else (decide (p0.to_ < p1.to_))))

noncomputable def spec_AutoOk.k0 : Option Bool := some true
noncomputable def spec_AutoOk.b0 (p0 : TAuto) (x3_l0 : Int) : Option (Int ⊕ (Unit ⊕ Bool)) := (if x3_l0 < ((p0.edges.length : Int)) then (ix p0.edges x3_l0).bind fun a41 => bnd ((!(spec_l4State a41.from_ p0.states))) fun c49 => bnd ((c49 || (!(spec_l4State a41.to_ p0.states)))) fun c57 => bnd ((c57 || (!(spec_l1In a41.letter 0 ((W (p0.letters - 1))))))) fun c66 => bnd ((decide (x3_l0 > 0))) fun c69 => (whenO ((!c66) && c69) (ix p0.edges ((W (x3_l0 - 1))))).bind fun a74 => (if (c66 || (c69 && (!(spec_l4Less a74 a41)))) = true then some (.inr ((.inr false))) else some (.inl ((W (x3_l0 + 1))))) else some (.inr ((.inl (())))))
noncomputable def spec_AutoOk (p0 : TAuto) : Option Bool := bnd ((!(spec_l1In p0.letters 1 8))) fun c9 => bnd ((c9 || (!(spec_l1In p0.states 0 31)))) fun c15 => (whenO (!c15) (chk (decide (0 ≤ p0.states)))).bind fun u1 => bnd ((c15 || (!(spec_SetIn p0.start ((W (((shl .i64 1 p0.states)) - 1))))))) fun c25 => (if (c25 || (decide (((p0.edges.length : Int)) > 2000))) = true then some false else (loop (fun s : Int => spec_AutoOk.b0 p0 s) 0).bind (Sum.elim (fun q => spec_AutoOk.k0) (fun q => some q)))

noncomputable def spec_l1Bit (p0 : Int) : Option Int := (chk (decide (0 ≤ ((bAnd .i64 p0 31))))).bind fun u1 => some ((shl .i64 1 ((bAnd .i64 p0 31))))

noncomputable def spec_l1Has (p0 : Int) (p1 : Int) : Option Bool := bnd ((spec_l1In p1 0 30)) fun c7 => (whenO c7 (spec_l1Bit p1)).bind fun a10 => some ((c7 && (decide (((bAnd .i64 p0 a10)) ≠ 0))))

noncomputable def spec_l4Reach.k0 (x1_1 : Int) : Option Int := some x1_1
noncomputable def spec_l4Reach.k1 (x5_l0 : Int) (x1_2 : Int) : Option ((Int × Int) ⊕ Int) := some (.inl ((x1_2, (W (x5_l0 + 1)))))
noncomputable def spec_l4Reach.b1 (p0 : TAuto) (x1_l1 : Int) (x6_l1 : Int) : Option ((Int × Int) ⊕ Int) := (if x6_l1 < ((p0.edges.length : Int)) then (ix p0.edges x6_l1).bind fun a24 => (spec_l1Has x1_l1 a24.from_).bind fun a27 => (if a27 = true then (ix p0.edges x6_l1).bind fun a32 => (spec_l1Bit a32.to_).bind fun a35 => some (.inl (((bOr .i64 x1_l1 a35), (W (x6_l1 + 1))))) else some (.inl ((x1_l1, (W (x6_l1 + 1)))))) else some (.inr x1_l1))
noncomputable def spec_l4Reach.b0 (p0 : TAuto) (x1_l0 : Int) (x5_l0 : Int) : Option ((Int × Int) ⊕ Int) := (if x5_l0 ≤ p0.states then (loop (fun s : (Int × Int) => spec_l4Reach.b1 p0 s.1 s.2) ((x1_l0, 0))).bind (fun q => spec_l4Reach.k1 x5_l0 q) else some (.inr x1_l0))
noncomputable def spec_l4Reach (p0 : TAuto) (p1 : Int) : Option Int := (loop (fun s : (Int × Int) => spec_l4Reach.b0 p0 s.1 s.2) ((p1, 0))).bind (fun q => spec_l4Reach.k0 q)

noncomputable def spec_AutoLive.k2 (x8_3 : Int) : Option Int := some x8_3
noncomputable def spec_AutoLive.b0 (p0 : TAuto) (y4 : (List Int)) (x5_2 : Int) (x8_l0 : Int) (x9_l0 : Int) : Option ((Int × Int) ⊕ Int) := (if x9_l0 < p0.states then (ix y4 x9_l0).bind fun a64 => (if ((bAnd .i64 a64 x5_2)) ≠ 0 then (spec_l1Bit x9_l0).bind fun a71 => some (.inl (((bOr .i64 x8_l0 a71), (W (x9_l0 + 1))))) else some (.inl ((x8_l0, (W (x9_l0 + 1)))))) else some (.inr x8_l0))
noncomputable def spec_AutoLive.k1 (p0 : TAuto) (y4 : (List Int)) (x5_2 : Int) : Option Int := (loop (fun s : (Int × Int) => spec_AutoLive.b0 p0 y4 x5_2 s.1 s.2) ((0, 0))).bind (fun q => spec_AutoLive.k2 q)
noncomputable def spec_AutoLive.b1 (p0 : TAuto) (y4 : (List Int)) (x5_l1 : Int) (x6_l1 : Int) : Option ((Int × Int) ⊕ Int) := (if x6_l1 < ((p0.edges.length : Int)) then (ix p0.edges x6_l1).bind fun a37 => bnd a37.good fun c41 => (whenO c41 (ix y4 a37.to_)).bind fun a45 => (whenO c41 (spec_l1Has a45 a37.from_)).bind fun a49 => (if (c41 && a49) = true then (spec_l1Bit a37.from_).bind fun a54 => some (.inl (((bOr .i64 x5_l1 a54), (W (x6_l1 + 1))))) else some (.inl ((x5_l1, (W (x6_l1 + 1)))))) else some (.inr x5_l1))
noncomputable def spec_AutoLive.k0 (p0 : TAuto) (y4 : (List Int)) : Option Int := (loop (fun s : (Int × Int) => spec_AutoLive.b1 p0 y4 s.1 s.2) ((0, 0))).bind (fun q => spec_AutoLive.k1 p0 y4 q)
noncomputable def spec_AutoLive.b2 (p0 : TAuto) (y29 : (List Int)) (x4_l2 : Int) : Option (((List Int) × Int) ⊕ (List Int)) := (if x4_l2 < p0.states then (spec_l1Bit x4_l2).bind fun a23 => (spec_l4Reach p0 a23).bind fun a24 => (app 8 y29 ([a24])).bind fun z26 => some (.inl ((z26, (W (x4_l2 + 1))))) else some (.inr y29))
noncomputable def spec_AutoLive (p0 : TAuto) : Option Int := (spec_AutoOk p0).bind fun a11 => (if (!a11) = true then some 0 else (loop (fun s : ((List Int) × Int) => spec_AutoLive.b2 p0 s.1 s.2) (([], 0))).bind (fun q => spec_AutoLive.k0 p0 q))

noncomputable def impl_inRange (p0 : Int) (p1 : Int) (p2 : Int) : Bool := bnd ((decide (p0 ≥ p1))) fun c10 => (c10 && (decide (p0 ≤ p2)))

noncomputable def impl_isLetters (p0 : Int) : Bool := (impl_inRange p0 1 8)

noncomputable def impl_SetOk (p0 : Int) : Bool := (impl_inRange p0 0 2147483647)

noncomputable def impl_only (p0 : Int) : Int := (shl .i64 1 ((IntKind.u64.wrap p0)))

noncomputable def impl_headOk (p0 : Int) (p1 : Int) (p2 : Int) : Bool := bnd ((impl_isLetters p0)) fun c9 => bnd ((c9 && (impl_inRange p1 0 31))) fun c13 => bnd ((c13 && (impl_SetOk p2))) fun c17 => (c17 && (decide (p2 < ((impl_only p1)))))

noncomputable def cmp_isNaN_int (p0 : Int) : Bool := (decide (p0 ≠ p0))

noncomputable def cmp_Compare_int (p0 : Int) (p1 : Int) : Int := (if (cmp_isNaN_int p0) = true then (if (cmp_isNaN_int p1) = true then 0 else (-1)) else (if (cmp_isNaN_int p1) = true then 1 else (if p0 < p1 then (-1) else (if p0 > p1 then 1 else 0))))

noncomputable def cmp_Or_int.k0 : Option Int := some 0
noncomputable def cmp_Or_int.b0 (p0 : (List Int)) (x8_l0 : Int) : Option (Int ⊕ (Unit ⊕ Int)) := (if x8_l0 < ((p0.length : Int)) then (ix p0 x8_l0).bind fun a10 => (if a10 ≠ 0 then some (.inr ((.inr a10))) else some (.inl ((W (x8_l0 + 1))))) else some (.inr ((.inl (())))))
noncomputable def cmp_Or_int (p0 : (List Int)) : Option Int := (loop (fun s : Int => cmp_Or_int.b0 p0 s) 0).bind (Sum.elim (fun q => cmp_Or_int.k0) (fun q => some q))

noncomputable def impl_compareEdges (p0 : TEdge) (p1 : TEdge) : Option Int := (cmp_Or_int ([(cmp_Compare_int p0.from_ p1.from_), (cmp_Compare_int p0.letter p1.letter), (cmp_Compare_int p0.to_ p1.to_)])).bind fun a21 => some a21

noncomputable def impl_AutoOk.k0 : Option Bool := some true
noncomputable def impl_AutoOk.b0 (p0 : TAuto) (x22_l0 : Int) : Option (Int ⊕ (Unit ⊕ Bool)) := (if x22_l0 < ((p0.edges.length : Int)) then (ix p0.edges x22_l0).bind fun a25 => bnd ((!(impl_inRange a25.from_ 0 ((W (p0.states - 1)))))) fun c34 => bnd ((c34 || (!(impl_inRange a25.to_ 0 ((W (p0.states - 1))))))) fun c43 => (if (c43 || (!(impl_inRange a25.letter 0 ((W (p0.letters - 1)))))) = true then some (.inr ((.inr false))) else bnd ((decide (x22_l0 > 0))) fun c54 => (whenO c54 (ix p0.edges ((W (x22_l0 - 1))))).bind fun a59 => (whenO c54 (impl_compareEdges a59 a25)).bind fun a62 => (if (c54 && (decide (a62 ≥ 0))) = true then some (.inr ((.inr false))) else some (.inl ((W (x22_l0 + 1)))))) else some (.inr ((.inl (())))))
noncomputable def impl_AutoOk (p0 : TAuto) : Option Bool := bnd ((!(impl_headOk p0.letters p0.states p0.start))) fun c13 => (if (c13 || (decide (((p0.edges.length : Int)) > 2000))) = true then some false else (loop (fun s : Int => impl_AutoOk.b0 p0 s) 0).bind (Sum.elim (fun q => impl_AutoOk.k0) (fun q => some q)))

noncomputable def impl_graphOf (p0 : Int) : Option Tgraph := (mk 24 ([] : (List Tstep)) p0).bind fun z4 => some ((Tgraph.mk z4))

noncomputable def impl_graph_add (p0 : Tgraph) (p1 : Int) (p2 : Int) (p3 : Int) : Option Tgraph := (ck p1 p0.next_.length).bind fun m18 => (app 16 ((p0.next_.getD m18 [])) ([(Tstep.mk p2 p3)])).bind fun z24 => (ck p1 p0.next_.length).bind fun m25 => some ((Tgraph.mk ((p0.next_.set m18 z24))))

noncomputable def impl_Auto_graph.k0 (y7 : (List (List Tstep))) : Option Tgraph := some ((Tgraph.mk y7))
noncomputable def impl_Auto_graph.k1 (y14 : (List (List Tstep))) (a19 : TEdge) (x17_l0 : Int) (x6_2 : Int) : Option (((List (List Tstep)) × Int) ⊕ (List (List Tstep))) := (impl_graph_add ((Tgraph.mk y14)) a19.from_ a19.to_ x6_2).bind fun a29 => some (.inl ((a29.next_, (W (x17_l0 + 1)))))
noncomputable def impl_Auto_graph.b0 (p0 : TAuto) (y14 : (List (List Tstep))) (x17_l0 : Int) : Option (((List (List Tstep)) × Int) ⊕ (List (List Tstep))) := (if x17_l0 < ((p0.edges.length : Int)) then (ix p0.edges x17_l0).bind fun a19 => (if a19.good = true then impl_Auto_graph.k1 y14 a19 x17_l0 1 else impl_Auto_graph.k1 y14 a19 x17_l0 0) else some (.inr y14))
noncomputable def impl_Auto_graph (p0 : TAuto) : Option Tgraph := (impl_graphOf p0.states).bind fun a11 => (loop (fun s : ((List (List Tstep)) × Int) => impl_Auto_graph.b0 p0 s.1 s.2) ((a11.next_, 0))).bind (fun q => impl_Auto_graph.k0 q)

noncomputable def impl_graph_finished.k0 (y5 : (List Int)) : Option (List Int) := some y5
noncomputable def impl_graph_finished.k1 (x20_l0 : Int) (y20 : (List Int)) (y23 : (List Bool)) : Option (((List Int) × (List Bool) × Int) ⊕ (List Int)) := some (.inl ((y20, y23, (W (x20_l0 + 1)))))
noncomputable def impl_graph_finished.b1 (p0 : Tgraph) (y29 : (List Int)) (y32 : (List Bool)) (y33 : (List Tplace)) : Option (((List Int) × (List Bool) × (List Tplace)) ⊕ ((List Int) × (List Bool))) := (if ((y33.length : Int)) > 0 then (ck ((W (((y33.length : Int)) - 1))) y33.length).bind fun m40 => (ix p0.next_ (((y33.getD m40 default)).point)).bind fun a53 => (if (((y33.getD m40 default)).at_) = ((a53.length : Int)) then (app 8 y29 ([((y33.getD m40 default)).point])).bind fun z63 => (cut y33 0 ((W (((y33.length : Int)) - 1)))).bind fun a68 => some (.inl ((z63, y32, a68))) else (ix p0.next_ (((y33.getD m40 default)).point)).bind fun a77 => (ix a77 (((y33.getD m40 default)).at_)).bind fun a83 => (ix y32 a83.to_).bind fun a95 => (if (!a95) = true then (ck a83.to_ y32.length).bind fun m100 => (app 16 ((y33.set m40 ((fun q : Tplace => { q with at_ := (W ((((y33.getD m40 default)).at_) + 1)) }) (y33.getD m40 default)))) ([(Tplace.mk a83.to_ 0)])).bind fun z105 => some (.inl ((y29, (y32.set m100 true), z105))) else some (.inl ((y29, y32, (y33.set m40 ((fun q : Tplace => { q with at_ := (W ((((y33.getD m40 default)).at_) + 1)) }) (y33.getD m40 default)))))))) else some (.inr ((y29, y32))))
noncomputable def impl_graph_finished.b0 (p0 : Tgraph) (y9 : (List Int)) (y12 : (List Bool)) (x20_l0 : Int) : Option (((List Int) × (List Bool) × Int) ⊕ (List Int)) := (if x20_l0 < ((p0.next_.length : Int)) then (ix y12 x20_l0).bind fun a25 => (if a25 = true then impl_graph_finished.k1 x20_l0 y9 y12 else (ck x20_l0 y12.length).bind fun m29 => (loop (fun s : ((List Int) × (List Bool) × (List Tplace)) => impl_graph_finished.b1 p0 s.1 s.2.1 s.2.2) ((y9, (y12.set m29 true), [(Tplace.mk x20_l0 0)]))).bind (fun q => impl_graph_finished.k1 x20_l0 q.1 q.2)) else some (.inr y9))
noncomputable def impl_graph_finished (p0 : Tgraph) : Option (List Int) := (mk 1 false ((p0.next_.length : Int))).bind fun z14 => (loop (fun s : ((List Int) × (List Bool) × Int) => impl_graph_finished.b0 p0 s.1 s.2.1 s.2.2) (([], z14, 0))).bind (fun q => impl_graph_finished.k0 q)

noncomputable def impl_graph_back.k0 (y7 : (List (List Tstep))) : Option Tgraph := some ((Tgraph.mk y7))
noncomputable def impl_graph_back.k1 (x19_l0 : Int) (y25 : (List (List Tstep))) : Option (((List (List Tstep)) × Int) ⊕ (List (List Tstep))) := some (.inl ((y25, (W (x19_l0 + 1)))))
noncomputable def impl_graph_back.b1 (a22 : (List Tstep)) (x19_l0 : Int) (y30 : (List (List Tstep))) (x26_l1 : Int) : Option (((List (List Tstep)) × Int) ⊕ (List (List Tstep))) := (if x26_l1 < ((a22.length : Int)) then (ix a22 x26_l1).bind fun a28 => (impl_graph_add ((Tgraph.mk y30)) a28.to_ x19_l0 a28.marks).bind fun a36 => some (.inl ((a36.next_, (W (x26_l1 + 1))))) else some (.inr y30))
noncomputable def impl_graph_back.b0 (p0 : Tgraph) (y14 : (List (List Tstep))) (x19_l0 : Int) : Option (((List (List Tstep)) × Int) ⊕ (List (List Tstep))) := (if x19_l0 < ((p0.next_.length : Int)) then (ix p0.next_ x19_l0).bind fun a22 => (loop (fun s : ((List (List Tstep)) × Int) => impl_graph_back.b1 a22 x19_l0 s.1 s.2) ((y14, 0))).bind (fun q => impl_graph_back.k1 x19_l0 q) else some (.inr y14))
noncomputable def impl_graph_back (p0 : Tgraph) : Option Tgraph := (impl_graphOf ((p0.next_.length : Int))).bind fun a13 => (loop (fun s : ((List (List Tstep)) × Int) => impl_graph_back.b0 p0 s.1 s.2) ((a13.next_, 0))).bind (fun q => impl_graph_back.k0 q)

noncomputable def slices_Reverse_int_int.b0 (y2 : (List Int)) (x2_l0 : Int) (x3_l0 : Int) : Option (((List Int) × Int × Int) ⊕ (List Int)) := (if x2_l0 < x3_l0 then (ix y2 x3_l0).bind fun a20 => (ix y2 x2_l0).bind fun a24 => (ck x2_l0 y2.length).bind fun m26 => (ck x3_l0 ((y2.set m26 a20)).length).bind fun m27 => some (.inl (((((y2.set m26 a20)).set m27 a24), (W (x2_l0 + 1)), (W (x3_l0 - 1))))) else some (.inr y2))
noncomputable def slices_Reverse_int_int (p0 : (List Int)) : Option (List Int) := (loop (fun s : ((List Int) × Int × Int) => slices_Reverse_int_int.b0 s.1 s.2.1 s.2.2) ((p0, 0, (W (((p0.length : Int)) - 1))))).bind (fun q => some q)

noncomputable def impl_graph_rings.k1 (y8 : (List Int)) : Option (List Int) := some y8
noncomputable def impl_graph_rings.k2 (x36_l0 : Int) (y18 : (List Int)) : Option (((List Int) × Int) ⊕ (List Int)) := some (.inl ((y18, (W (x36_l0 + 1)))))
noncomputable def impl_graph_rings.b2 (a71 : (List Tstep)) (x36_l0 : Int) (y37 : (List Int)) (y38 : (List Int)) (x74_l2 : Int) : Option (((List Int) × (List Int) × Int) ⊕ ((List Int) × (List Int))) := (if x74_l2 < ((a71.length : Int)) then (ix a71 x74_l2).bind fun a76 => (ix y37 a76.to_).bind fun a81 => (if a81 < 0 then (ck a76.to_ y37.length).bind fun m88 => (app 8 y38 ([a76.to_])).bind fun z93 => some (.inl (((y37.set m88 x36_l0), z93, (W (x74_l2 + 1))))) else some (.inl ((y37, y38, (W (x74_l2 + 1)))))) else some (.inr ((y37, y38))))
noncomputable def impl_graph_rings.b1 (a16 : Tgraph) (x36_l0 : Int) (y24 : (List Int)) (y25 : (List Int)) : Option (((List Int) × (List Int)) ⊕ (List Int)) := (if ((y25.length : Int)) > 0 then (ix y25 ((W (((y25.length : Int)) - 1)))).bind fun a59 => (cut y25 0 ((W (((y25.length : Int)) - 1)))).bind fun a65 => (ix a16.next_ a59).bind fun a71 => (loop (fun s : ((List Int) × (List Int) × Int) => impl_graph_rings.b2 a71 x36_l0 s.1 s.2.1 s.2.2) ((y24, a65, 0))).bind (fun q => some (.inl q)) else some (.inr y24))
noncomputable def impl_graph_rings.b0 (a33 : (List Int)) (a16 : Tgraph) (y10 : (List Int)) (x36_l0 : Int) : Option (((List Int) × Int) ⊕ (List Int)) := (if x36_l0 < ((a33.length : Int)) then (ix a33 x36_l0).bind fun a39 => (ix y10 a39).bind fun a43 => (if a43 ≥ 0 then impl_graph_rings.k2 x36_l0 y10 else (ck a39 y10.length).bind fun m49 => (loop (fun s : ((List Int) × (List Int)) => impl_graph_rings.b1 a16 x36_l0 s.1 s.2) (((y10.set m49 x36_l0), [a39]))).bind (fun q => impl_graph_rings.k2 x36_l0 q)) else some (.inr y10))
noncomputable def impl_graph_rings.k0 (a14 : (List Int)) (a16 : Tgraph) (y6 : (List Int)) : Option (List Int) := (slices_Reverse_int_int a14).bind fun a33 => (loop (fun s : ((List Int) × Int) => impl_graph_rings.b0 a33 a16 s.1 s.2) ((y6, 0))).bind (fun q => impl_graph_rings.k1 q)
noncomputable def impl_graph_rings.b3 (z22 : (List Int)) (y56 : (List Int)) (x25_l3 : Int) : Option (((List Int) × Int) ⊕ (List Int)) := (if x25_l3 < ((z22.length : Int)) then (ck x25_l3 y56.length).bind fun m30 => some (.inl (((y56.set m30 ((-1))), (W (x25_l3 + 1))))) else some (.inr y56))
noncomputable def impl_graph_rings (p0 : Tgraph) : Option (List Int) := (impl_graph_finished p0).bind fun a14 => (impl_graph_back p0).bind fun a16 => (mk 8 (0 : Int) ((p0.next_.length : Int))).bind fun z22 => (loop (fun s : ((List Int) × Int) => impl_graph_rings.b3 z22 s.1 s.2) ((z22, 0))).bind (fun q => impl_graph_rings.k0 a14 a16 q)

noncomputable def impl_graph_far.k2 (y10 : (List Int)) : Option (List Int) := some y10
noncomputable def impl_graph_far.k3 (x10_l0 : Int) (y23 : (List Int)) (y24 : (List Int)) : Option (((List Int) × (List Int) × Int) ⊕ (List Int)) := some (.inl ((y23, y24, (W (x10_l0 + 1)))))
noncomputable def impl_graph_far.b1 (a63 : (List Tstep)) (a56 : Int) (y28 : (List Int)) (y29 : (List Int)) (x66_l1 : Int) : Option (((List Int) × (List Int) × Int) ⊕ ((List Int) × (List Int))) := (if x66_l1 < ((a63.length : Int)) then (ix a63 x66_l1).bind fun a68 => (ix y28 a68.to_).bind fun a73 => (if a73 < 0 then (ix y28 a56).bind fun a81 => (ck a68.to_ y28.length).bind fun m84 => (app 8 y29 ([a68.to_])).bind fun z89 => some (.inl (((y28.set m84 ((W (a81 + 1)))), z89, (W (x66_l1 + 1))))) else some (.inl ((y28, y29, (W (x66_l1 + 1)))))) else some (.inr ((y28, y29))))
noncomputable def impl_graph_far.b0 (p0 : Tgraph) (y12 : (List Int)) (y13 : (List Int)) (x10_l0 : Int) : Option (((List Int) × (List Int) × Int) ⊕ (List Int)) := (if x10_l0 < ((y13.length : Int)) then (ix y13 x10_l0).bind fun a56 => (ix p0.next_ a56).bind fun a63 => (loop (fun s : ((List Int) × (List Int) × Int) => impl_graph_far.b1 a63 a56 s.1 s.2.1 s.2.2) ((y12, y13, 0))).bind (fun q => impl_graph_far.k3 x10_l0 q.1 q.2) else some (.inr y12))
noncomputable def impl_graph_far.k1 (p0 : Tgraph) (y6 : (List Int)) (y7 : (List Int)) : Option (List Int) := (loop (fun s : ((List Int) × (List Int) × Int) => impl_graph_far.b0 p0 s.1 s.2.1 s.2.2) ((y6, y7, 0))).bind (fun q => impl_graph_far.k2 q)
noncomputable def impl_graph_far.b2 (p1 : (List Int)) (y47 : (List Int)) (y48 : (List Int)) (x31_l2 : Int) : Option (((List Int) × (List Int) × Int) ⊕ ((List Int) × (List Int))) := (if x31_l2 < ((p1.length : Int)) then (ix p1 x31_l2).bind fun a33 => (ix y47 a33).bind fun a37 => (if a37 < 0 then (ck a33 y47.length).bind fun m42 => (app 8 y48 ([a33])).bind fun z46 => some (.inl (((y47.set m42 0), z46, (W (x31_l2 + 1))))) else some (.inl ((y47, y48, (W (x31_l2 + 1)))))) else some (.inr ((y47, y48))))
noncomputable def impl_graph_far.k0 (p1 : (List Int)) (p0 : Tgraph) (y4 : (List Int)) : Option (List Int) := (loop (fun s : ((List Int) × (List Int) × Int) => impl_graph_far.b2 p1 s.1 s.2.1 s.2.2) ((y4, [], 0))).bind (fun q => impl_graph_far.k1 p0 q.1 q.2)
noncomputable def impl_graph_far.b3 (z19 : (List Int)) (y63 : (List Int)) (x22_l3 : Int) : Option (((List Int) × Int) ⊕ (List Int)) := (if x22_l3 < ((z19.length : Int)) then (ck x22_l3 y63.length).bind fun m27 => some (.inl (((y63.set m27 ((-1))), (W (x22_l3 + 1))))) else some (.inr y63))
noncomputable def impl_graph_far (p0 : Tgraph) (p1 : (List Int)) : Option (List Int) := (mk 8 (0 : Int) ((p0.next_.length : Int))).bind fun z19 => (loop (fun s : ((List Int) × Int) => impl_graph_far.b3 z19 s.1 s.2) ((z19, 0))).bind (fun q => impl_graph_far.k0 p1 p0 q)

noncomputable def impl_Auto_live.k1 (x7_2 : Int) : Option Int := some x7_2
noncomputable def impl_Auto_live.b0 (a47 : (List Int)) (x7_l0 : Int) (x49_l0 : Int) : Option ((Int × Int) ⊕ Int) := (if x49_l0 < ((a47.length : Int)) then (ix a47 x49_l0).bind fun a52 => (if a52 ≥ 0 then some (.inl (((bOr .i64 x7_l0 ((impl_only x49_l0))), (W (x49_l0 + 1))))) else some (.inl ((x7_l0, (W (x49_l0 + 1)))))) else some (.inr x7_l0))
noncomputable def impl_Auto_live.k0 (p0 : TAuto) (y2 : (List Int)) : Option Int := (impl_Auto_graph p0).bind fun a44 => (impl_graph_back a44).bind fun a45 => (impl_graph_far a45 y2).bind fun a47 => (loop (fun s : (Int × Int) => impl_Auto_live.b0 a47 s.1 s.2) ((0, 0))).bind (fun q => impl_Auto_live.k1 q)
noncomputable def impl_Auto_live.b1 (p0 : TAuto) (a12 : (List Int)) (y15 : (List Int)) (x18_l1 : Int) : Option (((List Int) × Int) ⊕ (List Int)) := (if x18_l1 < ((p0.edges.length : Int)) then (ix p0.edges x18_l1).bind fun a20 => bnd a20.good fun c24 => (whenO c24 (ix a12 a20.from_)).bind fun a28 => (whenO c24 (ix a12 a20.to_)).bind fun a33 => (if (c24 && (decide (a28 = a33))) = true then (app 8 y15 ([a20.from_])).bind fun z41 => some (.inl ((z41, (W (x18_l1 + 1))))) else some (.inl ((y15, (W (x18_l1 + 1)))))) else some (.inr y15))
noncomputable def impl_Auto_live (p0 : TAuto) : Option Int := (impl_Auto_graph p0).bind fun a11 => (impl_graph_rings a11).bind fun a12 => (loop (fun s : ((List Int) × Int) => impl_Auto_live.b1 p0 a12 s.1 s.2) (([], 0))).bind (fun q => impl_Auto_live.k0 p0 q)

noncomputable def impl_AutoLive (p0 : TAuto) : Option Int := (impl_AutoOk p0).bind fun a4 => (if (!a4) = true then some 0 else (impl_Auto_live p0).bind fun a6 => some a6)

noncomputable def laws_eqEdge (p0 : TEdge) (p1 : TEdge) : Bool := (if p0.from_ ≠ p1.from_ then false else (if p0.letter ≠ p1.letter then false else (if p0.to_ ≠ p1.to_ then false else (if (!(p0.good == p1.good)) = true then false else true))))

noncomputable def laws_eqEdgeS.k0 : Option Bool := some true
noncomputable def laws_eqEdgeS.b0 (p0 : (List TEdge)) (p1 : (List TEdge)) (x5_l0 : Int) : Option (Int ⊕ (Unit ⊕ Bool)) := (if x5_l0 < ((p0.length : Int)) then (ix p0 x5_l0).bind fun a19 => (ix p1 x5_l0).bind fun a23 => (if (!(laws_eqEdge a19 a23)) = true then some (.inr ((.inr false))) else some (.inl ((W (x5_l0 + 1))))) else some (.inr ((.inl (())))))
noncomputable def laws_eqEdgeS (p0 : (List TEdge)) (p1 : (List TEdge)) : Option Bool := (if ((p0.length : Int)) ≠ ((p1.length : Int)) then some false else (loop (fun s : Int => laws_eqEdgeS.b0 p0 p1 s) 0).bind (Sum.elim (fun q => laws_eqEdgeS.k0) (fun q => some q)))

noncomputable def laws_eqAuto (p0 : TAuto) (p1 : TAuto) : Option Bool := (if p0.letters ≠ p1.letters then some false else (if p0.states ≠ p1.states then some false else (if p0.start ≠ p1.start then some false else (laws_eqEdgeS p0.edges p1.edges).bind fun a24 => (if (!a24) = true then some false else some true))))

noncomputable def laws_FnExactAutoLive (p0 : TAuto) : Option Bool := (if ((laws_szAuto p0 1048576)) < 0 then some true else (laws_toAuto p0).bind fun a13 => (spec_AutoLive ((TAuto.mk a13.letters a13.states a13.start a13.edges))).bind fun a14 => (laws_toAuto p0).bind fun a16 => (impl_AutoLive ((TAuto.mk a16.letters a16.states a16.start a16.edges))).bind fun a18 => (if a18 ≠ a14 then some false else (laws_toAuto p0).bind fun a24 => (laws_eqAuto ((TAuto.mk a16.letters a16.states a16.start a16.edges)) ((TAuto.mk a24.letters a24.states a24.start a24.edges))).bind fun a25 => (if (!a25) = true then some false else some true)))

end Go.Proofs.Ythdclobnmicdaaa
