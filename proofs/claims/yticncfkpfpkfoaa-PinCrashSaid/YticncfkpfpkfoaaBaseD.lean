/- The program's walker, with functions that defer. -/
import Derived.Test.YticncfkpfpkfoaaBase
import Derived.Test.YticncfkpfpkfoaaEvD
namespace Go.Proofs.Yticncfkpfpkfoaa
end Go.Proofs.Yticncfkpfpkfoaa
