/- PinChecks: for every input the law returns true, and its arguments read as they did. No condition. -/
import Derived.Test.YticncfkpfpkfoaaRows
import Derived.Test.YticncfkpfpkfoaaPChecks
import Derived.Test.YticncfkpfpkfoaaPFacts
set_option linter.unusedVariables false
set_option linter.unusedSimpArgs false
namespace Go.Proofs.Yticncfkpfpkfoaa
open Go Go.ChangeShapes Go.WideShapes Go.ChangeAt Go.RowKit

theorem func18 : Try.prog.funcs[18]? = some Try.f18 := by kernel_rfl

set_option maxRecDepth 100000 in
theorem pinChecks_lifted (os : Os) (started : os.Started) (H : Type) (enc : TypeId × Value → H) :
    ReturnsInHanded {} Try.checked os 18 .any (Rows.pinChecksSpec.pre6 enc Try.prog Try.f18 Rows.pinChecksRow.domain false) (Rows.pinChecksSpec.post enc Try.prog Try.f18 false true false false) := by
  refine returnsInHanded_of_change (C := Try.checked) own started (by kernel_rfl) func18
    (ChangeSpec.witness6 (enc := enc) (C := Try.checked) false ⟨#[], #[(Value.agg #[.int .i64 0, .int .i64 0, .int .i64 0, .int .i64 0, .int .i64 0, .int .i64 0]), (Value.agg (Array.replicate 128 (.int .u8 0)))], []⟩ 8 (by kernel_rfl) (by kernel_rfl) (by kernel_rfl) (by kernel_rfl)) ?_
  intro W base args ds gs before hval0 hW hcnd _
  have hval : ∀ (j : Nat) t v, Try.f18.params[j]? = some t → args[j]? = some v → Value.okWide P W .any base t v := hval0
  have hW' := hW
  obtain ⟨p, q, hA0, hV, rfl, hfz, hnd⟩ := hW
  have hA : DataW.TrodAll enc P W 0 (fun _ => true) true Try.f18.params.toList args.toList ds p := hA0
  have hpar : Try.f18.params = #[87, 98] := by kernel_rfl
  rw [hpar] at hA hval
  obtain ⟨v0, v1, d0, d1, p0, p1, rfl, rfl, rfl, h0, h1⟩ := trodAll_two hA
  obtain ⟨x0, rfl, hb0⟩ := open_pin87 (hval 0 87 v0 rfl rfl) h0
  obtain ⟨x1, rfl, ha1, hb1⟩ := open_two98 (hval 1 98 v1 rfl rfl) h1
  have hlaw := pinChecks_law (w := W) (p := x0) ha1 hb1
  refine hlaw.mono fun v W' hE => ?_
  obtain ⟨rfl, hfr⟩ := hE
  exact post_fr (P := P) (tb := 4) laidOut (fun t ht => by
    rw [hpar] at ht
    simp only [List.mem_cons, List.not_mem_nil, or_false] at ht
    rcases ht with rfl | rfl <;> first | exact readable87 | exact readable98) rfl rfl (by kernel_rfl) und4 hW' hfr

theorem pinChecks_holds : Rows.PinChecksSaid :=
  OpenClaim.holds_of_wide 18 Try.f18 rfl rfl rfl rfl rfl rfl rfl ⟨rfl, rfl, rfl, rfl, rfl⟩ rfl rfl rfl rfl rfl (by kernel_rfl) func18 (by kernel_rfl)
    (of_decide_eq_true (by kernel_rfl)) (by unfold Func.isWrapper; first | (rw [if_pos (by decide +kernel)]; kernel_rfl) | (rw [if_neg (by decide +kernel)]; exact ⟨rfl, rfl⟩))
    (fun os started H enc _ => pinChecks_lifted os started H enc)
end Go.Proofs.Yticncfkpfpkfoaa
