/- Plain functions that the program's functions come to: FnExactOmegaOk. -/
import Derived.Test.YtpikdepigcmfnaaTy
import Derived.Test.YtpikdepigcmfnaaDReOk
namespace Go.Proofs.Ytpikdepigcmfnaa
open Go Go.RowKit E
set_option linter.unusedVariables false
noncomputable def laws_szOmega (p0 : TOmega) (p1 : Int) : Int := (if ((laws_szNodeS p0.stem p1)) < 0 then (-1) else (if ((laws_szNodeS p0.loop ((laws_szNodeS p0.stem p1)))) < 0 then (-1) else (laws_szNodeS p0.loop ((laws_szNodeS p0.stem p1)))))

noncomputable def laws_szOmegaS.k0 (x1_1 : Int) : Option Int := some x1_1
noncomputable def laws_szOmegaS.b0 (p0 : (List TOmega)) (x1_l0 : Int) (x5_l0 : Int) : Option ((Int × Int) ⊕ (Int ⊕ Int)) := (if x5_l0 < ((p0.length : Int)) then (ix p0 x5_l0).bind fun a20 => (if ((laws_szOmega a20 x1_l0)) < 0 then some (.inr ((.inr ((-1))))) else some (.inl (((laws_szOmega a20 x1_l0), (W (x5_l0 + 1)))))) else some (.inr ((.inl x1_l0))))
noncomputable def laws_szOmegaS (p0 : (List TOmega)) (p1 : Int) : Option Int := (if ((W (p1 - ((p0.length : Int))))) < 0 then some ((-1)) else (loop (fun s : (Int × Int) => laws_szOmegaS.b0 p0 s.1 s.2) (((W (p1 - ((p0.length : Int)))), 0))).bind (Sum.elim (fun q => laws_szOmegaS.k0 q) (fun q => some q)))

noncomputable def laws_toOmega (p0 : TOmega) : Option TOmega := (laws_toNodeS p0.stem).bind fun a6 => (laws_toNodeS p0.loop).bind fun a10 => some ((TOmega.mk a6 a10))

noncomputable def laws_toOmegaS.k0 (y4 : (List TOmega)) : Option (List TOmega) := some y4
noncomputable def laws_toOmegaS.b0 (p0 : (List TOmega)) (y6 : (List TOmega)) (x4_l0 : Int) : Option (((List TOmega) × Int) ⊕ (List TOmega)) := (if x4_l0 < ((p0.length : Int)) then (ix p0 x4_l0).bind fun a18 => (laws_toOmega a18).bind fun a20 => (ck x4_l0 y6.length).bind fun m21 => some (.inl (((y6.set m21 a20), (W (x4_l0 + 1))))) else some (.inr y6))
noncomputable def laws_toOmegaS (p0 : (List TOmega)) : Option (List TOmega) := (mk 48 (TOmega.mk ([] : (List TNode)) ([] : (List TNode))) ((p0.length : Int))).bind fun z7 => (loop (fun s : ((List TOmega) × Int) => laws_toOmegaS.b0 p0 s.1 s.2) ((z7, 0))).bind (fun q => laws_toOmegaS.k0 q)

noncomputable def spec_OmegaOk.k0 : Option Bool := some true
noncomputable def spec_OmegaOk.b0 (p0 : (List TOmega)) (x3_l0 : Int) : Option (Int ⊕ (Unit ⊕ Bool)) := (if x3_l0 < ((p0.length : Int)) then (ix p0 x3_l0).bind fun a15 => (spec_ReOk a15.stem).bind fun a18 => bnd ((!a18)) fun c20 => (whenO (!c20) (ix p0 x3_l0)).bind fun a23 => (whenO (!c20) (spec_ReOk a23.loop)).bind fun a26 => (if (c20 || (!a26)) = true then some (.inr ((.inr false))) else some (.inl ((W (x3_l0 + 1))))) else some (.inr ((.inl (())))))
noncomputable def spec_OmegaOk (p0 : (List TOmega)) : Option Bool := (if ((p0.length : Int)) > 4 then some false else (loop (fun s : Int => spec_OmegaOk.b0 p0 s) 0).bind (Sum.elim (fun q => spec_OmegaOk.k0) (fun q => some q)))

noncomputable def impl_OmegaOk.k0 (p0 : (List TOmega)) : Option Bool := some ((decide (((p0.length : Int)) ≤ 4)))
noncomputable def impl_OmegaOk.b0 (p0 : (List TOmega)) (x7_l0 : Int) : Option (Int ⊕ (Unit ⊕ Bool)) := (if x7_l0 < ((p0.length : Int)) then (ix p0 x7_l0).bind fun a9 => (impl_ReOk a9.stem).bind fun a13 => bnd ((!a13)) fun c15 => (whenO (!c15) (impl_ReOk a9.loop)).bind fun a18 => (if (c15 || (!a18)) = true then some (.inr ((.inr false))) else some (.inl ((W (x7_l0 + 1))))) else some (.inr ((.inl (())))))
noncomputable def impl_OmegaOk (p0 : (List TOmega)) : Option Bool := (loop (fun s : Int => impl_OmegaOk.b0 p0 s) 0).bind (Sum.elim (fun q => impl_OmegaOk.k0 p0) (fun q => some q))

noncomputable def laws_eqOmega (p0 : TOmega) (p1 : TOmega) : Option Bool := (laws_eqNodeS p0.stem p1.stem).bind fun a9 => (if (!a9) = true then some false else (laws_eqNodeS p0.loop p1.loop).bind fun a15 => (if (!a15) = true then some false else some true))

noncomputable def laws_eqOmegaS.k0 : Option Bool := some true
noncomputable def laws_eqOmegaS.b0 (p0 : (List TOmega)) (p1 : (List TOmega)) (x5_l0 : Int) : Option (Int ⊕ (Unit ⊕ Bool)) := (if x5_l0 < ((p0.length : Int)) then (ix p0 x5_l0).bind fun a19 => (ix p1 x5_l0).bind fun a23 => (laws_eqOmega a19 a23).bind fun a25 => (if (!a25) = true then some (.inr ((.inr false))) else some (.inl ((W (x5_l0 + 1))))) else some (.inr ((.inl (())))))
noncomputable def laws_eqOmegaS (p0 : (List TOmega)) (p1 : (List TOmega)) : Option Bool := (if ((p0.length : Int)) ≠ ((p1.length : Int)) then some false else (loop (fun s : Int => laws_eqOmegaS.b0 p0 p1 s) 0).bind (Sum.elim (fun q => laws_eqOmegaS.k0) (fun q => some q)))

noncomputable def laws_FnExactOmegaOk (p0 : (List TOmega)) : Option Bool := (laws_szOmegaS p0 1048576).bind fun a9 => (if a9 < 0 then some true else (laws_toOmegaS p0).bind fun a13 => (spec_OmegaOk a13).bind fun a14 => (laws_toOmegaS p0).bind fun a16 => (impl_OmegaOk a16).bind fun a18 => (if (!(a18 == a14)) = true then some false else (laws_toOmegaS p0).bind fun a24 => (laws_eqOmegaS a16 a24).bind fun a25 => (if (!a25) = true then some false else some true)))

end Go.Proofs.Ytpikdepigcmfnaa
