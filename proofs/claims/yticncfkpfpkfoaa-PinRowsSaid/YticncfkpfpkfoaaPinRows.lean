/- PinRows: for every input the law returns true, and its arguments read as they did. No condition. -/
import Derived.Test.YticncfkpfpkfoaaRows
import Derived.Test.YticncfkpfpkfoaaPRows
import Derived.Test.YticncfkpfpkfoaaPFacts
set_option linter.unusedVariables false
set_option linter.unusedSimpArgs false
namespace Go.Proofs.Yticncfkpfpkfoaa
open Go Go.ChangeShapes Go.WideShapes Go.ChangeAt Go.RowKit

theorem func16 : Try.prog.funcs[16]? = some Try.f16 := by kernel_rfl

set_option maxRecDepth 100000 in
theorem pinRows_lifted (os : Os) (started : os.Started) (H : Type) (enc : TypeId × Value → H) :
    ReturnsInHanded {} Try.checked os 16 .any (Rows.pinRowsSpec.pre6 enc Try.prog Try.f16 Rows.pinRowsRow.domain false) (Rows.pinRowsSpec.post enc Try.prog Try.f16 false true false false) := by
  refine returnsInHanded_of_change (C := Try.checked) own started (by kernel_rfl) func16
    (ChangeSpec.witness6 (enc := enc) (C := Try.checked) false ⟨#[], #[.slice none 0 0, .int .u8 0, .int .u8 0], []⟩ 8 (by kernel_rfl) (by kernel_rfl) (by kernel_rfl) (by kernel_rfl)) ?_
  intro W base args ds gs before hval0 hW hcnd _
  have hval : ∀ (j : Nat) t v, Try.f16.params[j]? = some t → args[j]? = some v → Value.okWide P W .any base t v := hval0
  have hW' := hW
  obtain ⟨p, q, hA0, hV, rfl, hfz, hnd⟩ := hW
  have hA : DataW.TrodAll enc P W 0 (fun _ => true) true Try.f16.params.toList args.toList ds p := hA0
  have hpar : Try.f16.params = #[85, 5, 5] := by kernel_rfl
  rw [hpar] at hA hval
  obtain ⟨v0, v1, v2, d0, d1, d2, p0, p1, p2, rfl, rfl, rfl, h0, h1, h2⟩ := trodAll_three hA
  obtain ⟨x0, r0⟩ := open_pins85 (hval 0 85 v0 rfl rfl) h0
  obtain ⟨y1, rfl, _, _, r1⟩ := open_int und5 (hval 1 5 v1 rfl rfl) h1
  obtain ⟨x1, e1⟩ := open_u8 r1
  obtain ⟨y2, rfl, _, _, r2⟩ := open_int und5 (hval 2 5 v2 rfl rfl) h2
  obtain ⟨x2, e2⟩ := open_u8 r2
  have hlaw := pinRows_law (at_ := x1) (fill := x2) r0.1
  rw [← e1] at hlaw
  rw [← e2] at hlaw
  refine hlaw.mono fun v W' hE => ?_
  obtain ⟨rfl, hfr⟩ := hE
  exact post_fr (P := P) (tb := 4) laidOut (fun t ht => by
    rw [hpar] at ht
    simp only [List.mem_cons, List.not_mem_nil, or_false] at ht
    rcases ht with rfl | rfl | rfl <;> first | exact readable5 | exact readable85) rfl rfl (by kernel_rfl) und4 hW' hfr

theorem pinRows_holds : Rows.PinRowsSaid :=
  OpenClaim.holds_of_wide 16 Try.f16 rfl rfl rfl rfl rfl rfl rfl ⟨rfl, rfl, rfl, rfl, rfl⟩ rfl rfl rfl rfl rfl (by kernel_rfl) func16 (by kernel_rfl)
    (of_decide_eq_true (by kernel_rfl)) (by unfold Func.isWrapper; first | (rw [if_pos (by decide +kernel)]; kernel_rfl) | (rw [if_neg (by decide +kernel)]; exact ⟨rfl, rfl⟩))
    (fun os started H enc _ => pinRows_lifted os started H enc)
end Go.Proofs.Yticncfkpfpkfoaa
