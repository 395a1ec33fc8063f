/- The program of this seat as the walker takes it. -/
import Derived.Test.YtieejbkbdfccdaaGreatEv
import Derived.Test.YtieejbkbdfccdaaGreatProg
namespace Go.Proofs.YtieejbkbdfccdaaGreat
open Go
noncomputable def P : Program := Tryz.prog
noncomputable def C : FuncId → Bool := tableC Tryz.prog
theorem bodies : Bodies P C := bodies_of P
theorem mixed : P.follows .mixedOrders = true := by kernel_rfl
end Go.Proofs.YtieejbkbdfccdaaGreat
