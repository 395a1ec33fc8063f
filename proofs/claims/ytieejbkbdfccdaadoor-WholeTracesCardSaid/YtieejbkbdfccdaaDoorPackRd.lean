/- Read: all parts, or the Fault that was thrown. -/
import Derived.Test.YtieejbkbdfccdaaDoorPackR2
import Derived.WideLaws
set_option linter.unusedVariables false
set_option linter.unusedSimpArgs false
namespace Go.Proofs.YtieejbkbdfccdaaDoor
open Go

theorem und20i : P.underlying 20 = some (.interface (P.methodsAt 20)) := by kernel_rfl
/-- The parts that bytes are, of these kinds; the error's number, and how many bytes were read ahead. -/
def readGo (most : Int) : List UInt8 → List UInt8 → Nat → List PartP → List PartP × Nat × Nat
  | [], l, k, acc => if 0 < l.length then ([], 3, k) else (acc, 0, 0)
  | c :: cs, l, k, acc => if (partM c most l).2.2 ≠ 0 then ([], (partM c most l).2.2, k + (partM c most l).2.1) else readGo most cs (l.drop (partM c most l).2.1) (k + (partM c most l).2.1) (acc ++ [(partM c most l).1])
def readM (B K : List UInt8) (most : Int) : List PartP × Nat × Nat := readGo most K B 0 []

end Go.Proofs.YtieejbkbdfccdaaDoor
