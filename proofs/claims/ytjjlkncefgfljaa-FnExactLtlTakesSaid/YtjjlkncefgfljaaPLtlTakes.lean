/- What a formula says of a word. -/
import Derived.Test.YtjjlkncefgfljaaPLtlAt
namespace Go.Proofs.Ytjjlkncefgfljaa
end Go.Proofs.Ytjjlkncefgfljaa
