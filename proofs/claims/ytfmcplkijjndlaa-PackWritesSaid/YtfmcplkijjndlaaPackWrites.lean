/- PackWrites: for every input the law returns true, and its arguments read as they did. No condition. -/
import Derived.Test.YtfmcplkijjndlaaRows
import Derived.Test.YtfmcplkijjndlaaPWrites
import Derived.Test.YtfmcplkijjndlaaPOpen
set_option linter.unusedVariables false
set_option linter.unusedSimpArgs false
namespace Go.Proofs.Ytfmcplkijjndlaa
open Go Go.ChangeShapes Go.WideShapes Go.ChangeAt Go.RowKit

theorem func15 : Try.prog.funcs[15]? = some Try.f15 := by kernel_rfl

set_option maxRecDepth 100000 in
theorem packWrites_lifted (os : Os) (started : os.Started) (H : Type) (enc : TypeId × Value → H) :
    ReturnsInHanded {} Try.checked os 15 .any (Rows.packWritesSpec.pre6 enc Try.prog Try.f15 Rows.packWritesRow.domain false) (Rows.packWritesSpec.post enc Try.prog Try.f15 false true false false) := by
  refine returnsInHanded_of_change (C := Try.checked) own started (by kernel_rfl) func15
    (ChangeSpec.witness6 (enc := enc) (C := Try.checked) false ⟨#[], #[.slice none 0 0], []⟩ 8 (by kernel_rfl) (by kernel_rfl) (by kernel_rfl) (by kernel_rfl)) ?_
  intro W base args ds gs before hval0 hW hcnd _
  have hval : ∀ (j : Nat) t v, Try.f15.params[j]? = some t → args[j]? = some v → Value.okWide P W .any base t v := hval0
  have hW' := hW
  obtain ⟨p, q, hA0, hV, rfl, hfz, hnd⟩ := hW
  have hA : DataW.TrodAll enc P W 0 (fun _ => true) true Try.f15.params.toList args.toList ds p := hA0
  have hpar : Try.f15.params = #[37] := by kernel_rfl
  rw [hpar] at hA hval
  obtain ⟨v0, d0, rfl, rfl, h0⟩ := trodAll_one hA
  obtain ⟨x0, r0⟩ := open_slice37 (hval 0 37 v0 rfl rfl) h0
  have hlaw := packWrites_law r0
  refine hlaw.mono fun v W' hE => ?_
  obtain ⟨rfl, hfr⟩ := hE
  exact post_fr (P := P) (tb := 4) laidOut (fun t ht => by
    rw [hpar] at ht
    simp only [List.mem_cons, List.not_mem_nil, or_false] at ht
    subst ht; exact readable37) rfl rfl (by kernel_rfl) und4 hW' hfr

theorem packWrites_holds : Rows.PackWritesSaid :=
  OpenClaim.holds_of_wide 15 Try.f15 rfl rfl rfl rfl rfl rfl rfl ⟨rfl, rfl, rfl, rfl, rfl⟩ rfl rfl rfl rfl rfl (by kernel_rfl) func15 (by kernel_rfl)
    (of_decide_eq_true (by kernel_rfl)) (by unfold Func.isWrapper; first | (rw [if_pos (by decide +kernel)]; kernel_rfl) | (rw [if_neg (by decide +kernel)]; exact ⟨rfl, rfl⟩))
    (fun os started H enc _ => packWrites_lifted os started H enc)
end Go.Proofs.Ytfmcplkijjndlaa
