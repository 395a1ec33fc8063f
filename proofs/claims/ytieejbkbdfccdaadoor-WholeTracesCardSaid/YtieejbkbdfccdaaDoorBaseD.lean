/- The program's walker, with functions that defer. -/
import Derived.Test.YtieejbkbdfccdaaDoorBase
import Derived.Test.YtieejbkbdfccdaaDoorEvD
namespace Go.Proofs.YtieejbkbdfccdaaDoor
end Go.Proofs.YtieejbkbdfccdaaDoor
