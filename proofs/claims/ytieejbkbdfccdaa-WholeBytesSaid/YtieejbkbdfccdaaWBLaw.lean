/- WholeBytes: the law, of an open slice. -/
import Derived.Test.YtieejbkbdfccdaaWBWalk
import Derived.Test.YtieejbkbdfccdaaFacts
namespace Go.Proofs.Ytieejbkbdfccdaa
open Go
theorem wholeBytes_rd {w : World} {v : Value} {L : List Nat} (h : RdV w v L.length (L.map fl) ∧ ∀ x ∈ L, x < 2 * H63) : Ret P 3 #[v] w fun x w' => x = .bool true ∧ Fr [] w w' := wholeBytes_law h.1 h.2
end Go.Proofs.Ytieejbkbdfccdaa
