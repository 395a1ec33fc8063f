/- DiskDoes: for every input the law returns true, and its arguments read as they did. No condition. -/
import Derived.Test.YticncfkpfpkfoaaRows
import Derived.Test.YticncfkpfpkfoaaDoes
import Derived.Test.YticncfkpfpkfoaaFacts
set_option linter.unusedVariables false
set_option linter.unusedSimpArgs false
namespace Go.Proofs.Yticncfkpfpkfoaa
open Go Go.ChangeShapes Go.WideShapes Go.ChangeAt Go.RowKit

theorem func7 : Try.prog.funcs[7]? = some Try.f7 := by kernel_rfl

set_option maxRecDepth 100000 in
theorem diskDoes_lifted (os : Os) (started : os.Started) (H : Type) (enc : TypeId × Value → H) :
    ReturnsInHanded {} Try.checked os 7 .any (Rows.diskDoesSpec.pre6 enc Try.prog Try.f7 Rows.diskDoesRow.domain false) (Rows.diskDoesSpec.post enc Try.prog Try.f7 false true false false) := by
  refine returnsInHanded_of_change (C := Try.checked) own started (by kernel_rfl) func7
    (ChangeSpec.witness6 (enc := enc) (C := Try.checked) false ⟨#[], #[.int .i64 0, .slice none 0 0], []⟩ 8 (by kernel_rfl) (by kernel_rfl) (by kernel_rfl) (by kernel_rfl)) ?_
  intro W base args ds gs before hval0 hW hcnd _
  have hval : ∀ (j : Nat) t v, Try.f7.params[j]? = some t → args[j]? = some v → Value.okWide P W .any base t v := hval0
  have hW' := hW
  obtain ⟨p, q, hA0, hV, rfl, hfz, hnd⟩ := hW
  have hA : DataW.TrodAll enc P W 0 (fun _ => true) true Try.f7.params.toList args.toList ds p := hA0
  have hpar : Try.f7.params = #[3, 42] := by kernel_rfl
  rw [hpar] at hA hval
  obtain ⟨v0, v1, d0, d1, p0, p1, rfl, rfl, rfl, h0, h1⟩ := trodAll_two hA
  obtain ⟨x0, rfl, _, _, r0⟩ := open_int und3 (hval 0 3 v0 rfl rfl) h0
  obtain ⟨x1, r1⟩ := open_ops42 (hval 1 42 v1 rfl rfl) h1
  refine (diskDoes_law (wf_i64 r0).1 (wf_i64 r0).2 r1).mono fun v W' hE => ?_
  obtain ⟨rfl, hfr⟩ := hE
  exact post_fr (P := P) (tb := 4) laidOut (fun t ht => by
    rw [hpar] at ht
    simp only [List.mem_cons, List.not_mem_nil, or_false] at ht
    rcases ht with rfl | rfl <;> first | exact readable3 | exact readable42) rfl rfl (by kernel_rfl) und4 hW' hfr

theorem diskDoes_holds : Rows.DiskDoesSaid :=
  OpenClaim.holds_of_wide 7 Try.f7 rfl rfl rfl rfl rfl rfl rfl ⟨rfl, rfl, rfl, rfl, rfl⟩ rfl rfl rfl rfl rfl (by kernel_rfl) func7 (by kernel_rfl)
    (of_decide_eq_true (by kernel_rfl)) (by unfold Func.isWrapper; first | (rw [if_pos (by decide +kernel)]; kernel_rfl) | (rw [if_neg (by decide +kernel)]; exact ⟨rfl, rfl⟩))
    (fun os started H enc _ => diskDoes_lifted os started H enc)
end Go.Proofs.Yticncfkpfpkfoaa
