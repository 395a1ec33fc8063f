/- The program of this seat as the walker takes it. -/
import Derived.Test.YtieejbkbdfccdaaDoorEv
import Derived.Test.YtieejbkbdfccdaaDoorProg
namespace Go.Proofs.YtieejbkbdfccdaaDoor
open Go

noncomputable def P : Program := Tryd.prog
noncomputable def C : FuncId → Bool := tableC Tryd.prog
theorem bodies : Bodies P C := bodies_of P
theorem mixed : P.follows .mixedOrders = true := by kernel_rfl
end Go.Proofs.YtieejbkbdfccdaaDoor
