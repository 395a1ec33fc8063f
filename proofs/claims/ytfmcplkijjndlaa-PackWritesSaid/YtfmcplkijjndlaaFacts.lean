/- Facts on the program that every row asks for. -/
import Derived.Test.YtfmcplkijjndlaaRow
import Derived.Test.YtfmcplkijjndlaaTypes
import Derived.Test.YtfmcplkijjndlaaChecked
import Derived.Test.YtfmcplkijjndlaaFloPrims
namespace Go.Proofs.Ytfmcplkijjndlaa
open Go Go.ChangeShapes Go.WideShapes Go.ChangeAt Go.RowKit

theorem own : ownKnob Try.prog.godebug = none := by kernel_rfl
theorem laidOut : laidOutB P = true := by kernel_rfl
theorem undF : P.underlying 22 = some (.float .f64) := by kernel_rfl
theorem undU : P.underlying 25 = some (.int .u64) := by kernel_rfl
theorem readable22 : P.readableRec 22 = true ∧ 22 < P.types.size := ⟨by kernel_rfl, of_decide_eq_true (by kernel_rfl)⟩
theorem readable25 : P.readableRec 25 = true ∧ 25 < P.types.size := ⟨by kernel_rfl, of_decide_eq_true (by kernel_rfl)⟩

variable {H : Type} {enc : TypeId × Value → H}
theorem open_f64 {W : World} {r : Reach} {b0 : Nat} {v : Value} {d : DataW H} {p : List MemPlace}
    (hval : Value.okWide P W r b0 22 v) (h : DataW.Trod enc P W 0 (fun _ => true) true 22 v d p) : ∃ a, v = fl a ∧ a < 2 * H63 := by
  obtain ⟨a, rfl, _, _, hw⟩ := open_float undF hval h
  refine ⟨a, rfl, ?_⟩
  simpa [Lit.wf, FloatKind.format, Ieee.Format.width, Ieee.double, H63] using hw
theorem open_u64 {W : World} {r : Reach} {b0 : Nat} {v : Value} {d : DataW H} {p : List MemPlace}
    (hval : Value.okWide P W r b0 25 v) (h : DataW.Trod enc P W 0 (fun _ => true) true 25 v d p) : ∃ a, v = u64 a ∧ a < 2 * H63 := by
  obtain ⟨n, rfl, _, _, hw⟩ := open_int undU hval h
  simp only [Lit.wf, Bool.and_eq_true, decide_eq_true_eq] at hw
  have h1 : IntKind.u64.min = 0 := by decide
  have h2 : IntKind.u64.max = 18446744073709551615 := by decide
  rw [h1, h2] at hw
  refine ⟨n.toNat, ?_, by unfold H63; omega⟩
  show Value.int .u64 n = Value.int .u64 (n.toNat : Int)
  congr 1
  omega
end Go.Proofs.Ytfmcplkijjndlaa
