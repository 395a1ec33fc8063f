/- PackCuts: for every input the law returns true, and its arguments read as they did. No condition. -/
import Derived.Test.YtfmcplkijjndlaaRows
import Derived.Test.YtfmcplkijjndlaaPCuts
import Derived.Test.YtfmcplkijjndlaaPOpen
set_option linter.unusedVariables false
set_option linter.unusedSimpArgs false
namespace Go.Proofs.Ytfmcplkijjndlaa
open Go Go.ChangeShapes Go.WideShapes Go.ChangeAt Go.RowKit

theorem func14 : Try.prog.funcs[14]? = some Try.f14 := by kernel_rfl

set_option maxRecDepth 100000 in
theorem packCuts_lifted (os : Os) (started : os.Started) (H : Type) (enc : TypeId × Value → H) :
    ReturnsInHanded {} Try.checked os 14 .any (Rows.packCutsSpec.pre6 enc Try.prog Try.f14 Rows.packCutsRow.domain false) (Rows.packCutsSpec.post enc Try.prog Try.f14 false true false false) := by
  refine returnsInHanded_of_change (C := Try.checked) own started (by kernel_rfl) func14
    (ChangeSpec.witness6 (enc := enc) (C := Try.checked) false ⟨#[], #[.slice none 0 0, .int .i64 0, .slice none 0 0], []⟩ 8 (by kernel_rfl) (by kernel_rfl) (by kernel_rfl) (by kernel_rfl)) ?_
  intro W base args ds gs before hval0 hW hcnd _
  have hval : ∀ (j : Nat) t v, Try.f14.params[j]? = some t → args[j]? = some v → Value.okWide P W .any base t v := hval0
  have hW' := hW
  obtain ⟨p, q, hA0, hV, rfl, hfz, hnd⟩ := hW
  have hA : DataW.TrodAll enc P W 0 (fun _ => true) true Try.f14.params.toList args.toList ds p := hA0
  have hpar : Try.f14.params = #[37, 3, 40] := by kernel_rfl
  rw [hpar] at hA hval
  obtain ⟨v0, v1, v2, d0, d1, d2, p0, p1, p2, rfl, rfl, rfl, h0, h1, h2⟩ := trodAll_three hA
  obtain ⟨x0, r0⟩ := open_slice37 (hval 0 37 v0 rfl rfl) h0
  obtain ⟨x1, rfl, _, _, r1⟩ := open_int und3 (hval 1 3 v1 rfl rfl) h1
  obtain ⟨x2, r2⟩ := open_bytes und40 und5 cellsOf5 (hval 2 40 v2 rfl rfl) h2
  refine (packCuts_law r0 (wf_i64 r1) r2).mono fun v W' hE => ?_
  obtain ⟨rfl, hfr⟩ := hE
  exact post_fr (P := P) (tb := 4) laidOut (fun t ht => by
    rw [hpar] at ht
    simp only [List.mem_cons, List.not_mem_nil, or_false] at ht
    rcases ht with rfl | rfl | rfl <;> first | exact readable3 | exact readable37 | exact readable40) rfl rfl (by kernel_rfl) und4 hW' hfr

theorem packCuts_holds : Rows.PackCutsSaid :=
  OpenClaim.holds_of_wide 14 Try.f14 rfl rfl rfl rfl rfl rfl rfl ⟨rfl, rfl, rfl, rfl, rfl⟩ rfl rfl rfl rfl rfl (by kernel_rfl) func14 (by kernel_rfl)
    (of_decide_eq_true (by kernel_rfl)) (by unfold Func.isWrapper; first | (rw [if_pos (by decide +kernel)]; kernel_rfl) | (rw [if_neg (by decide +kernel)]; exact ⟨rfl, rfl⟩))
    (fun os started H enc _ => packCuts_lifted os started H enc)
end Go.Proofs.Ytfmcplkijjndlaa
