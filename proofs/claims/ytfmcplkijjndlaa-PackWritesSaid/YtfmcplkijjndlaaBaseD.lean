/- The program's walker, with functions that defer. -/
import Derived.Test.YtfmcplkijjndlaaBase
import Derived.Test.YtfmcplkijjndlaaEvD
namespace Go.Proofs.Ytfmcplkijjndlaa
end Go.Proofs.Ytfmcplkijjndlaa
