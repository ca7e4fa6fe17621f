/- Plain functions that the program's functions come to: FnExactLtlTakes. -/
import Derived.Test.YtjjlkncefgfljaaTy
import Derived.Test.YtjjlkncefgfljaaDLtlAt
namespace Go.Proofs.Ytjjlkncefgfljaa
open Go Go.RowKit E
set_option linter.unusedVariables false
noncomputable def spec_LtlTakes (p0 : (List TNode)) (p1 : TWord) : Option Bool := (spec_LtlAt p0 p1 0).bind fun a7 => some a7

noncomputable def impl_LtlTakes (p0 : (List TNode)) (p1 : TWord) : Option Bool := (impl_LtlAt p0 p1 0).bind fun a7 => some a7

noncomputable def laws_FnExactLtlTakes (p0 : (List TNode)) (p1 : TWord) : Option Bool := (if ((laws_szNodeS p0 1048576)) < 0 then some true else (if ((laws_szWord p1 ((laws_szNodeS p0 1048576)))) < 0 then some true else (laws_toNodeS p0).bind fun a21 => (laws_toWord p1).bind fun a23 => (spec_LtlTakes a21 a23).bind fun a24 => (laws_toNodeS p0).bind fun a26 => (laws_toWord p1).bind fun a28 => (impl_LtlTakes a26 a28).bind fun a31 => (if (!(a31 == a24)) = true then some false else (laws_toNodeS p0).bind fun a37 => (laws_eqNodeS a26 a37).bind fun a38 => (if (!a38) = true then some false else (laws_toWord p1).bind fun a42 => (laws_eqWord a28 a42).bind fun a43 => (if (!a43) = true then some false else some true)))))

end Go.Proofs.Ytjjlkncefgfljaa
