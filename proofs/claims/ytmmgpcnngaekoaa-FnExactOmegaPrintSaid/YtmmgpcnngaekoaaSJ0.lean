/- strings.Join as a plain function. -/
import Derived.Test.YtmmgpcnngaekoaaF6
namespace Go.Proofs.Ytmmgpcnngaekoaa
open Go Go.RowKit E

def joinL (xs : List ByteArray) (sep : ByteArray) : List UInt8 := sep.data.toList.intercalate (xs.map (·.data.toList))
noncomputable def strings_Join (xs : List ByteArray) (sep : ByteArray) : Option ByteArray := if (joinL xs sep).length ≤ 140737488355328 ∧ xs.length ≤ 140737488355328 then some ⟨(joinL xs sep).toArray⟩ else none
end Go.Proofs.Ytmmgpcnngaekoaa
