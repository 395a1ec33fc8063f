/- The types of slices that a conversion makes in this seat's program. -/

namespace Go.Proofs.YtieejbkbdfccdaaGreat
def slTypes : List Nat := [0]
end Go.Proofs.YtieejbkbdfccdaaGreat
