/- FloEdges: for every input the law returns true, and its arguments read as they did. No condition. -/
import Derived.Test.YtfmcplkijjndlaaRows
import Derived.Test.YtfmcplkijjndlaaFloEdges0
import Derived.Test.YtfmcplkijjndlaaFacts
set_option linter.unusedVariables false
set_option linter.unusedSimpArgs false
namespace Go.Proofs.Ytfmcplkijjndlaa
open Go Go.ChangeShapes Go.WideShapes Go.ChangeAt Go.RowKit

theorem func10 : Try.prog.funcs[10]? = some Try.f10 := by kernel_rfl

set_option maxRecDepth 100000 in
theorem floEdges_lifted (os : Os) (started : os.Started) (H : Type) (enc : TypeId × Value → H) :
    ReturnsInHanded {} Try.checked os 10 .any (Rows.floEdgesSpec.pre6 enc Try.prog Try.f10 Rows.floEdgesRow.domain false) (Rows.floEdgesSpec.post enc Try.prog Try.f10 false true false false) := by
  refine returnsInHanded_of_change (C := Try.checked) own started (by kernel_rfl) func10
    (ChangeSpec.witness6 (enc := enc) (C := Try.checked) false ⟨#[], #[], []⟩ 8 (by kernel_rfl) (by kernel_rfl) (by kernel_rfl) (by kernel_rfl)) ?_
  intro W base args ds gs before hval0 hW hcnd _
  have hval : ∀ (j : Nat) t v, Try.f10.params[j]? = some t → args[j]? = some v → Value.okWide P W .any base t v := hval0
  have hW' := hW
  obtain ⟨p, q, hA0, hV, rfl, hfz, hnd⟩ := hW
  have hA : DataW.TrodAll enc P W 0 (fun _ => true) true Try.f10.params.toList args.toList ds p := hA0
  have hpar : Try.f10.params = #[] := by kernel_rfl
  rw [hpar] at hA hval
  obtain ⟨rfl, rfl⟩ : args = #[] ∧ ds = [] := by
    cases hargs : args.toList with
    | nil =>
      rw [hargs] at hA
      cases ds with
      | nil => exact ⟨by simpa using hargs, rfl⟩
      | cons d ds => exact hA.elim
    | cons v vs => rw [hargs] at hA; exact hA.elim

  refine (flo_edges ).mono fun v W' hE => ?_
  obtain ⟨rfl, hfr⟩ := hE
  exact post_fr (P := P) (tb := 4) laidOut (fun t ht => by
    rw [hpar] at ht
    exact absurd ht List.not_mem_nil) rfl rfl (by kernel_rfl) und4 hW' hfr

theorem floEdges_holds : Rows.FloEdgesSaid :=
  OpenClaim.holds_of_wide 10 Try.f10 rfl rfl rfl rfl rfl rfl rfl ⟨rfl, rfl, rfl, rfl, rfl⟩ rfl rfl rfl rfl rfl (by kernel_rfl) func10 (by kernel_rfl)
    (of_decide_eq_true (by kernel_rfl)) (by unfold Func.isWrapper; first | (rw [if_pos (by decide +kernel)]; kernel_rfl) | (rw [if_neg (by decide +kernel)]; exact ⟨rfl, rfl⟩))
    (fun os started H enc _ => floEdges_lifted os started H enc)
end Go.Proofs.Ytfmcplkijjndlaa
