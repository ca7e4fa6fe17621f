/- slices.SortFunc number 43: it lies. -/
import Derived.Test.YthdoebgikbfndaaProg
import Derived.Test.YthdoebgikbfndaaSO
import Derived.Shelf.Small.Bits
import Derived.Shelf.Lay
import Derived.Ground.SlsfProg
import Derived.Ground.NamesProg
namespace Go.Proofs
open Go.Shelf Go.RowKit Go.Lib
shelf_lay_g SlLaysF0.n6 Slsf 6 at Try 43 as Try.sort43
theorem Try.sort43_a : ∀ w, (isAgg (Try.sort43_ren.t 24)).run Try.prog w = .ok true w := Try.isAgg62
theorem Try.sort43_z : ∀ w, (Go.sizeOf (Try.sort43_ren.t 24)).run Try.prog w = .ok 4 w := Try.sizeOf62
end Go.Proofs
