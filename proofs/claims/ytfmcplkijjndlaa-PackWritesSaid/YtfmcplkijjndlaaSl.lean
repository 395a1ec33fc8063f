/- The types of slices that a conversion makes in this seat's program. -/
namespace Go.Proofs.Ytfmcplkijjndlaa
def slTypes : List Nat := [40]
end Go.Proofs.Ytfmcplkijjndlaa
