/- The types of slices that a conversion makes in this seat's program. -/
namespace Go.Proofs.Yticncfkpfpkfoaa
def slTypes : List Nat := [22]
end Go.Proofs.Yticncfkpfpkfoaa
