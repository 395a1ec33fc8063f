/- SealWipes: for every input the law returns true, and its arguments read as they did. No condition. -/
import Derived.Test.YticncfkpfpkfoaaRows
import Derived.Test.YticncfkpfpkfoaaSWipes
import Derived.Test.YticncfkpfpkfoaaFacts
set_option linter.unusedVariables false
set_option linter.unusedSimpArgs false
namespace Go.Proofs.Yticncfkpfpkfoaa
open Go Go.ChangeShapes Go.WideShapes Go.ChangeAt Go.RowKit

theorem func11 : Try.prog.funcs[11]? = some Try.f11 := by kernel_rfl

set_option maxRecDepth 100000 in
theorem sealWipes_lifted (os : Os) (started : os.Started) (H : Type) (enc : TypeId × Value → H) :
    ReturnsInHanded {} Try.checked os 11 .any (Rows.sealWipesSpec.pre6 enc Try.prog Try.f11 Rows.sealWipesRow.domain false) (Rows.sealWipesSpec.post enc Try.prog Try.f11 false true false false) := by
  refine returnsInHanded_of_change (C := Try.checked) own started (by kernel_rfl) func11
    (ChangeSpec.witness6 (enc := enc) (C := Try.checked) false ⟨#[], #[.slice none 0 0, .int .i64 0, .int .i64 0], []⟩ 8 (by kernel_rfl) (by kernel_rfl) (by kernel_rfl) (by kernel_rfl)) ?_
  intro W base args ds gs before hval0 hW hcnd _
  have hval : ∀ (j : Nat) t v, Try.f11.params[j]? = some t → args[j]? = some v → Value.okWide P W .any base t v := hval0
  have hW' := hW
  obtain ⟨p, q, hA0, hV, rfl, hfz, hnd⟩ := hW
  have hA : DataW.TrodAll enc P W 0 (fun _ => true) true Try.f11.params.toList args.toList ds p := hA0
  have hpar : Try.f11.params = #[22, 3, 3] := by kernel_rfl
  rw [hpar] at hA hval
  obtain ⟨v0, v1, v2, d0, d1, d2, p0, p1, p2, rfl, rfl, rfl, h0, h1, h2⟩ := trodAll_three hA
  obtain ⟨x0, r0⟩ := open_bytes und22 und5 cellsOf5 (hval 0 22 v0 rfl rfl) h0
  obtain ⟨x1, rfl, _, _, r1⟩ := open_int und3 (hval 1 3 v1 rfl rfl) h1
  obtain ⟨x2, rfl, _, _, r2⟩ := open_int und3 (hval 2 3 v2 rfl rfl) h2
  refine (sealWipes_law r0 (wf_i64 r1) (wf_i64 r2)).mono fun v W' hE => ?_
  obtain ⟨rfl, hfr⟩ := hE
  exact post_fr (P := P) (tb := 4) laidOut (fun t ht => by
    rw [hpar] at ht
    simp only [List.mem_cons, List.not_mem_nil, or_false] at ht
    rcases ht with rfl | rfl | rfl <;> first | exact readable22 | exact readable3) rfl rfl (by kernel_rfl) und4 hW' hfr

theorem sealWipes_holds : Rows.SealWipesSaid :=
  OpenClaim.holds_of_wide 11 Try.f11 rfl rfl rfl rfl rfl rfl rfl ⟨rfl, rfl, rfl, rfl, rfl⟩ rfl rfl rfl rfl rfl (by kernel_rfl) func11 (by kernel_rfl)
    (of_decide_eq_true (by kernel_rfl)) (by unfold Func.isWrapper; first | (rw [if_pos (by decide +kernel)]; kernel_rfl) | (rw [if_neg (by decide +kernel)]; exact ⟨rfl, rfl⟩))
    (fun os started H enc _ => sealWipes_lifted os started H enc)
end Go.Proofs.Yticncfkpfpkfoaa
