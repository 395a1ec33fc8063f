/- The types of slices that a conversion makes in this seat's program. -/
namespace Go.Proofs.Ytieejbkbdfccdaa
def slTypes : List Nat := [23]
end Go.Proofs.Ytieejbkbdfccdaa
