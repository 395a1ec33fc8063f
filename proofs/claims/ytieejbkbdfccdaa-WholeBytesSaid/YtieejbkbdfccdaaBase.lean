/- The program of this seat as the walker takes it. -/
import Derived.Test.YtieejbkbdfccdaaEv
import Derived.Test.YtieejbkbdfccdaaProg
namespace Go.Proofs.Ytieejbkbdfccdaa
open Go

noncomputable def P : Program := Try.prog
noncomputable def C : FuncId → Bool := tableC Try.prog
theorem bodies : Bodies P C := bodies_of P
theorem mixed : P.follows .mixedOrders = true := by kernel_rfl
end Go.Proofs.Ytieejbkbdfccdaa
