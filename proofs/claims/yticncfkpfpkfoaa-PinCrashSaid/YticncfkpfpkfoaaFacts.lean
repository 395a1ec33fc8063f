/- Facts on the program that every row asks for. -/
import Derived.Test.YticncfkpfpkfoaaRow
import Derived.Test.YticncfkpfpkfoaaTypes
import Derived.Test.YticncfkpfpkfoaaChecked
namespace Go.Proofs.Yticncfkpfpkfoaa
open Go

theorem own : ownKnob Try.prog.godebug = none := by kernel_rfl
theorem laidOut : laidOutB P = true := by kernel_rfl
theorem und22 : P.underlying 22 = some (.slice 5) := by kernel_rfl
theorem und43 : P.underlying 43 = some (.slice 3) := by kernel_rfl
theorem readable3 : P.readableRec 3 = true ∧ 3 < P.types.size := ⟨by kernel_rfl, of_decide_eq_true (by kernel_rfl)⟩
theorem readable5 : P.readableRec 5 = true ∧ 5 < P.types.size := ⟨by kernel_rfl, of_decide_eq_true (by kernel_rfl)⟩
theorem readable22 : P.readableRec 22 = true ∧ 22 < P.types.size := ⟨by kernel_rfl, of_decide_eq_true (by kernel_rfl)⟩
theorem readable25 : P.readableRec 25 = true ∧ 25 < P.types.size := ⟨by kernel_rfl, of_decide_eq_true (by kernel_rfl)⟩
theorem readable43 : P.readableRec 43 = true ∧ 43 < P.types.size := ⟨by kernel_rfl, of_decide_eq_true (by kernel_rfl)⟩
theorem readable42 : P.readableRec 42 = true ∧ 42 < P.types.size := ⟨by kernel_rfl, of_decide_eq_true (by kernel_rfl)⟩
end Go.Proofs.Yticncfkpfpkfoaa
