/- The program's walker, with functions that defer. -/
import Derived.Test.YtieejbkbdfccdaaGreatBase
import Derived.Test.YtieejbkbdfccdaaGreatEvD
namespace Go.Proofs.YtieejbkbdfccdaaGreat
end Go.Proofs.YtieejbkbdfccdaaGreat
