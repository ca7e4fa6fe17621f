/- Plain functions that the program's functions come to: FnExactAutoLive. -/
import Derived.Test.YthdclobnmicdaaaTy
import Derived.Test.YthdclobnmicdaaaDAutoEmpty
namespace Go.Proofs.Ythdclobnmicdaaa
open Go Go.RowKit E
set_option linter.unusedVariables false
noncomputable def impl_AutoLive (p0 : TAuto) : Option Int := (impl_AutoOk p0).bind fun a4 => (if (!a4) = true then some 0 else (impl_Auto_live p0).bind fun a6 => some a6)

noncomputable def laws_FnExactAutoLive (p0 : TAuto) : Option Bool := (if ((laws_szAuto p0 1048576)) < 0 then some true else (laws_toAuto p0).bind fun a13 => (spec_AutoLive a13).bind fun a14 => (laws_toAuto p0).bind fun a16 => (impl_AutoLive a16).bind fun a18 => (if a18 ≠ a14 then some false else (laws_toAuto p0).bind fun a24 => (laws_eqAuto a16 a24).bind fun a25 => (if (!a25) = true then some false else some true)))

end Go.Proofs.Ythdclobnmicdaaa
