/- Plain functions that the program's functions come to: FnExactLtlPair. -/
import Derived.Test.YtgklefbkneomoaaTy
import Derived.Test.YtgklefbkneomoaaDLtlTemporal
namespace Go.Proofs.Ytgklefbkneomoaa
open Go Go.RowKit E
set_option linter.unusedVariables false
noncomputable def spec_l8Moved.k0 (y4 : (List TNode)) : Option (List TNode) := some y4
noncomputable def spec_l8Moved.k1 (y8 : (List TNode)) (p1 : Int) (x6_l0 : Int) (y21 : Int) (y22 : Int) (y23 : Int) : Option (((List TNode) × Int) ⊕ (List TNode)) := (if ((spec_l8Parts y21)) = 2 then (app 24 y8 ([(TNode.mk y21 y22 ((W (y23 + p1))))])).bind fun z40 => some (.inl ((z40, (W (x6_l0 + 1))))) else (app 24 y8 ([(TNode.mk y21 y22 y23)])).bind fun z40 => some (.inl ((z40, (W (x6_l0 + 1))))))
noncomputable def spec_l8Moved.b0 (p0 : (List TNode)) (p1 : Int) (y8 : (List TNode)) (x6_l0 : Int) : Option (((List TNode) × Int) ⊕ (List TNode)) := (if x6_l0 < ((p0.length : Int)) then (ix p0 x6_l0).bind fun a17 => (if ((spec_l8Parts a17.kind)) > 0 then spec_l8Moved.k1 y8 p1 x6_l0 a17.kind ((W (a17.a + p1))) a17.b else spec_l8Moved.k1 y8 p1 x6_l0 a17.kind a17.a a17.b) else some (.inr y8))
noncomputable def spec_l8Moved (p0 : (List TNode)) (p1 : Int) : Option (List TNode) := (loop (fun s : ((List TNode) × Int) => spec_l8Moved.b0 p0 p1 s.1 s.2) (([], 0))).bind (fun q => spec_l8Moved.k0 q)

noncomputable def spec_l8Two (p0 : (List TNode)) (p1 : Int) (p2 : Int) : Option (List TNode) := (app 24 p0 ([(TNode.mk p1 p2 ((W (((p0.length : Int)) - 1))))])).bind fun z15 => some z15

noncomputable def impl_reader_two (p0 : Treader) (p1 : Int) (p2 : Int) : Option Treader := (app 24 p0.list ([(TNode.mk p1 p2 ((W (((p0.list.length : Int)) - 1))))])).bind fun z21 => some ((Treader.mk p0.s p0.at_ p0.code z21))

noncomputable def impl_fitting (p0 : (List TNode)) : Option ((List TNode) × Bool) := (if ((p0.length : Int)) > 31 then some (([], false)) else some ((p0, true)))

noncomputable def impl_LtlPair.k0 (p0 : Int) (p1 : (List TNode)) (y10 : ByteArray) (y11 : Int) (y12 : Int) (y13 : (List TNode)) : Option ((List TNode) × Bool) := (impl_reader_two ((Treader.mk y10 y11 y12 y13)) p0 ((W (((p1.length : Int)) - 1)))).bind fun a92 => (impl_fitting a92.list).bind fun a97 => some ((a97.1, a97.2))
noncomputable def impl_LtlPair.k1 (y26 : (List TNode)) (y23 : ByteArray) (y24 : Int) (y25 : Int) (x48_l0 : Int) (y39 : Int) (y40 : Int) (y41 : Int) : Option ((ByteArray × Int × Int × (List TNode) × Int) ⊕ (ByteArray × Int × Int × (List TNode))) := (app 24 y26 ([(TNode.mk y39 y40 y41)])).bind fun z83 => some (.inl ((y23, y24, y25, z83, (W (x48_l0 + 1)))))
noncomputable def impl_LtlPair.b0 (p2 : (List TNode)) (p1 : (List TNode)) (y23 : ByteArray) (y24 : Int) (y25 : Int) (y26 : (List TNode)) (x48_l0 : Int) : Option ((ByteArray × Int × Int × (List TNode) × Int) ⊕ (ByteArray × Int × Int × (List TNode))) := (if x48_l0 < ((p2.length : Int)) then (ix p2 x48_l0).bind fun a50 => (if ((impl_ltlParts a50)) = 1 then impl_LtlPair.k1 y26 y23 y24 y25 x48_l0 a50.kind ((W (a50.a + ((p1.length : Int))))) a50.b else (if ((impl_ltlParts a50)) = 2 then impl_LtlPair.k1 y26 y23 y24 y25 x48_l0 a50.kind ((W (a50.a + ((p1.length : Int))))) ((W (a50.b + ((p1.length : Int))))) else impl_LtlPair.k1 y26 y23 y24 y25 x48_l0 a50.kind a50.a a50.b)) else some (.inr ((y23, y24, y25, y26))))
noncomputable def impl_LtlPair (p0 : Int) (p1 : (List TNode)) (p2 : (List TNode)) : Option ((List TNode) × Bool) := bnd ((decide (p0 ≠ 5))) fun c13 => bnd ((c13 && (decide (p0 ≠ 6)))) fun c17 => bnd ((c17 && (decide (p0 ≠ 8)))) fun c21 => bnd ((c21 && (decide (p0 ≠ 9)))) fun c25 => (whenO (!c25) (impl_LtlOk p1)).bind fun a27 => bnd ((c25 || (!a27))) fun c30 => (whenO (!c30) (impl_LtlOk p2)).bind fun a32 => (if (c30 || (!a32)) = true then some (([], false)) else (app 24 ([]) p1).bind fun z43 => (loop (fun s : (ByteArray × Int × Int × (List TNode) × Int) => impl_LtlPair.b0 p2 p1 s.1 s.2.1 s.2.2.1 s.2.2.2.1 s.2.2.2.2) ((⟨#[]⟩, 0, 0, z43, 0))).bind (fun q => impl_LtlPair.k0 p0 p1 q.1 q.2.1 q.2.2.1 q.2.2.2))

noncomputable def laws_heldNodeS.k0 (x1_1 : Int) : Option Int := some x1_1
noncomputable def laws_heldNodeS.b0 (p0 : (List TNode)) (x1_l0 : Int) (x5_l0 : Int) : Option ((Int × Int) ⊕ (Int ⊕ Int)) := (if x5_l0 < ((p0.length : Int)) then (ix p0 x5_l0).bind fun a14 => (if a14.kind ≠ x1_l0 then some (.inr ((.inr ((-1))))) else (ix p0 x5_l0).bind fun a23 => (if a23.a ≠ ((W (x1_l0 + 1))) then some (.inr ((.inr ((-1))))) else (ix p0 x5_l0).bind fun a32 => (if a32.b ≠ ((W (((W (x1_l0 + 1))) + 1))) then some (.inr ((.inr ((-1))))) else some (.inl (((W (((W (((W (x1_l0 + 1))) + 1))) + 1)), (W (x5_l0 + 1)))))))) else some (.inr ((.inl x1_l0))))
noncomputable def laws_heldNodeS (p0 : (List TNode)) (p1 : Int) : Option Int := (loop (fun s : (Int × Int) => laws_heldNodeS.b0 p0 s.1 s.2) ((p1, 0))).bind (Sum.elim (fun q => laws_heldNodeS.k0 q) (fun q => some q))

end Go.Proofs.Ytgklefbkneomoaa
