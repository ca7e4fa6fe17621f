/- Whether an automaton takes no word. -/
import Derived.Test.YthdclobnmicdaaaPAutoLive
namespace Go.Proofs.Ythdclobnmicdaaa
end Go.Proofs.Ythdclobnmicdaaa
