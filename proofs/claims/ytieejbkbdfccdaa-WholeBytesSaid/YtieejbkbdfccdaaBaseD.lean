/- The program's walker, with functions that defer. -/
import Derived.Test.YtieejbkbdfccdaaBase
import Derived.Test.YtieejbkbdfccdaaEvD
namespace Go.Proofs.Ytieejbkbdfccdaa
end Go.Proofs.Ytieejbkbdfccdaa
