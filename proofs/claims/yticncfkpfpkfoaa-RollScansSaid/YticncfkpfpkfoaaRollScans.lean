/- RollScans: for every input the law returns true, and its arguments read as they did. No condition. -/
import Derived.Test.YticncfkpfpkfoaaRows
import Derived.Test.YticncfkpfpkfoaaRScans
import Derived.Test.YticncfkpfpkfoaaRFacts2
set_option linter.unusedVariables false
set_option linter.unusedSimpArgs false
namespace Go.Proofs.Yticncfkpfpkfoaa
open Go Go.ChangeShapes Go.WideShapes Go.ChangeAt Go.RowKit

theorem func13 : Try.prog.funcs[13]? = some Try.f13 := by kernel_rfl

set_option maxRecDepth 100000 in
theorem rollScans_lifted (os : Os) (started : os.Started) (H : Type) (enc : TypeId × Value → H) :
    ReturnsInHanded {} Try.checked os 13 .any (Rows.rollScansSpec.pre6 enc Try.prog Try.f13 Rows.rollScansRow.domain false) (Rows.rollScansSpec.post enc Try.prog Try.f13 false true false false) := by
  refine returnsInHanded_of_change (C := Try.checked) own started (by kernel_rfl) func13
    (ChangeSpec.witness6 (enc := enc) (C := Try.checked) false ⟨#[], #[.slice none 0 0, (Value.agg #[.int .i64 0, .int .i64 0])], []⟩ 8 (by kernel_rfl) (by kernel_rfl) (by kernel_rfl) (by kernel_rfl)) ?_
  intro W base args ds gs before hval0 hW hcnd _
  have hval : ∀ (j : Nat) t v, Try.f13.params[j]? = some t → args[j]? = some v → Value.okWide P W .any base t v := hval0
  have hW' := hW
  obtain ⟨p, q, hA0, hV, rfl, hfz, hnd⟩ := hW
  have hA : DataW.TrodAll enc P W 0 (fun _ => true) true Try.f13.params.toList args.toList ds p := hA0
  have hpar : Try.f13.params = #[76, 65] := by kernel_rfl
  rw [hpar] at hA hval
  obtain ⟨v0, v1, d0, d1, p0, p1, rfl, rfl, rfl, h0, h1⟩ := trodAll_two hA
  obtain ⟨x0, r0⟩ := open_secs76 (hval 0 76 v0 rfl rfl) h0
  obtain ⟨x1, rfl, hb1, hb2⟩ := open_area65 (hval 1 65 v1 rfl rfl) h1
  have hlaw := rollScans_law r0.1 r0.2 hb1 hb2
  refine hlaw.mono fun v W' hE => ?_
  obtain ⟨rfl, hfr⟩ := hE
  exact post_fr (P := P) (tb := 4) laidOut (fun t ht => by
    rw [hpar] at ht
    simp only [List.mem_cons, List.not_mem_nil, or_false] at ht
    rcases ht with rfl | rfl <;> first | exact readable65 | exact readable76) rfl rfl (by kernel_rfl) und4 hW' hfr

theorem rollScans_holds : Rows.RollScansSaid :=
  OpenClaim.holds_of_wide 13 Try.f13 rfl rfl rfl rfl rfl rfl rfl ⟨rfl, rfl, rfl, rfl, rfl⟩ rfl rfl rfl rfl rfl (by kernel_rfl) func13 (by kernel_rfl)
    (of_decide_eq_true (by kernel_rfl)) (by unfold Func.isWrapper; first | (rw [if_pos (by decide +kernel)]; kernel_rfl) | (rw [if_neg (by decide +kernel)]; exact ⟨rfl, rfl⟩))
    (fun os started H enc _ => rollScans_lifted os started H enc)
end Go.Proofs.Yticncfkpfpkfoaa
