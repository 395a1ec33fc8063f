/- The types of slices that a conversion makes in this seat's program. -/
namespace Go.Proofs.YtieejbkbdfccdaaDoor
def slTypes : List Nat := [0]
end Go.Proofs.YtieejbkbdfccdaaDoor
