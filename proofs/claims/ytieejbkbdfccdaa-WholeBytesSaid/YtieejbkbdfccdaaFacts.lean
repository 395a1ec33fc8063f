/- Facts on the program that every row asks for; what came in, opened. -/
import Derived.Test.YtieejbkbdfccdaaRow
import Derived.Test.YtieejbkbdfccdaaTypes
import Derived.Test.YtieejbkbdfccdaaChecked
import Derived.Test.YtieejbkbdfccdaaFloPrims
import Derived.Test.YtieejbkbdfccdaaOpen
set_option linter.unusedVariables false
set_option linter.unusedSimpArgs false
namespace Go.Proofs.Ytieejbkbdfccdaa
open Go Go.ChangeShapes Go.WideShapes Go.ChangeAt Go.RowKit

theorem own : ownKnob Try.prog.godebug = none := by kernel_rfl
theorem laidOut : laidOutB P = true := by kernel_rfl
theorem und22o : P.underlying 22 = some (.slice 25) := by kernel_rfl
theorem und25o : P.underlying 25 = some (.float .f64) := by kernel_rfl
theorem readable22 : P.readableRec 22 = true ∧ 22 < P.types.size := ⟨by kernel_rfl, of_decide_eq_true (by kernel_rfl)⟩

variable {H : Type} {enc : TypeId × Value → H}
theorem open_f64c {W : World} {fuel : Nat} {cs : List Value} {x : DataW H × List MemPlace} (h : DataW.trod enc P W 0 (fun _ => true) true fuel 25 cs = some x) : ∃ a, cs = [fl a] ∧ a < 2 * H63 := by
  have hl : ∃ v, cs = [v] := by
    cases fuel with
    | zero => simp [DataW.trod] at h
    | succ fuel =>
      unfold DataW.trod at h
      simp only [und25o] at h
      split at h <;> first | exact ⟨_, rfl⟩ | simp_all
  obtain ⟨v, rfl⟩ := hl
  obtain ⟨a, rfl, hw⟩ := open_float1 und25o h
  exact ⟨a, rfl, by simpa [Lit.wf, FloatKind.format, Ieee.Format.width, Ieee.double, H63] using hw⟩
theorem open_slice22 {W : World} {r : Reach} {b0 : Nat} {v : Value} {d : DataW H} {p : List MemPlace} (hval : Value.okWide P W r b0 22 v) (h : DataW.Trod enc P W 0 (fun _ => true) true 22 v d p) :
    ∃ L : List Nat, RdV W v L.length (L.map fl) ∧ ∀ x ∈ L, x < 2 * H63 := by
  obtain ⟨fuel, hf⟩ := h
  obtain ⟨L, hL, hk⟩ := open_rows (fc := fun a : Nat => [fl a]) (Ok := fun a => a < 2 * H63) 0 und22o cellsOf25 (by omega) (fun _ => rfl) (okWide_slice und22o hval) (fun h => open_f64c h) hf
  refine ⟨L, ?_, hk⟩
  have : ∀ L : List Nat, flat (fun a : Nat => [fl a]) L = L.map fl := by
    intro L
    induction L with
    | nil => rfl
    | cons a L ih => simpa [flat] using ih
  rw [this] at hL
  exact hL
end Go.Proofs.Ytieejbkbdfccdaa
