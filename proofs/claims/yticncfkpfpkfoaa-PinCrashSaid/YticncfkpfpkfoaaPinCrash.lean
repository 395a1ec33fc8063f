/- PinCrash: for every input the law returns true, and its arguments read as they did. No condition. -/
import Derived.Test.YticncfkpfpkfoaaRows
import Derived.Test.YticncfkpfpkfoaaPCrash
import Derived.Test.YticncfkpfpkfoaaPFacts
set_option linter.unusedVariables false
set_option linter.unusedSimpArgs false
namespace Go.Proofs.Yticncfkpfpkfoaa
open Go Go.ChangeShapes Go.WideShapes Go.ChangeAt Go.RowKit

theorem func19 : Try.prog.funcs[19]? = some Try.f19 := by kernel_rfl

set_option maxRecDepth 100000 in
theorem pinCrash_lifted (os : Os) (started : os.Started) (H : Type) (enc : TypeId × Value → H) :
    ReturnsInHanded {} Try.checked os 19 .any (Rows.pinCrashSpec.pre6 enc Try.prog Try.f19 Rows.pinCrashRow.domain false) (Rows.pinCrashSpec.post enc Try.prog Try.f19 false true false false) := by
  refine returnsInHanded_of_change (C := Try.checked) own started (by kernel_rfl) func19
    (ChangeSpec.witness6 (enc := enc) (C := Try.checked) false ⟨#[], #[(Value.agg #[.int .i64 0, .int .i64 0, .int .i64 0, .int .i64 0, .int .i64 0, .int .i64 0, .int .i64 0, .int .i64 0, .int .i64 0, .int .i64 0, .int .i64 0, .int .i64 0]), .int .u8 0, .slice none 0 0], []⟩ 8 (by kernel_rfl) (by kernel_rfl) (by kernel_rfl) (by kernel_rfl)) ?_
  intro W base args ds gs before hval0 hW hcnd _
  have hval : ∀ (j : Nat) t v, Try.f19.params[j]? = some t → args[j]? = some v → Value.okWide P W .any base t v := hval0
  have hW' := hW
  obtain ⟨p, q, hA0, hV, rfl, hfz, hnd⟩ := hW
  have hA : DataW.TrodAll enc P W 0 (fun _ => true) true Try.f19.params.toList args.toList ds p := hA0
  have hpar : Try.f19.params = #[104, 5, 43] := by kernel_rfl
  rw [hpar] at hA hval
  obtain ⟨v0, v1, v2, d0, d1, d2, p0, p1, p2, rfl, rfl, rfl, h0, h1, h2⟩ := trodAll_three hA
  obtain ⟨⟨x0a, x0b⟩, rfl, hb0, hb1⟩ := open_two104 (hval 0 104 v0 rfl rfl) h0
  obtain ⟨y1, rfl, _, _, r1⟩ := open_int und5 (hval 1 5 v1 rfl rfl) h1
  obtain ⟨x1, e1⟩ := open_u8 r1
  obtain ⟨x2, r2, q2⟩ := open_rd und43 und3 cellsOf3 (hval 2 43 v2 rfl rfl) h2
  have hlaw := pinCrash_law (w := W) (p := x0a) (nx0 := x0b) (at_ := x1) r2
  rw [← e1] at hlaw
  refine hlaw.mono fun v W' hE => ?_
  obtain ⟨rfl, hfr⟩ := hE
  exact post_fr (P := P) (tb := 4) laidOut (fun t ht => by
    rw [hpar] at ht
    simp only [List.mem_cons, List.not_mem_nil, or_false] at ht
    rcases ht with rfl | rfl | rfl <;> first | exact readable104 | exact readable43 | exact readable5) rfl rfl (by kernel_rfl) und4 hW' hfr

theorem pinCrash_holds : Rows.PinCrashSaid :=
  OpenClaim.holds_of_wide 19 Try.f19 rfl rfl rfl rfl rfl rfl rfl ⟨rfl, rfl, rfl, rfl, rfl⟩ rfl rfl rfl rfl rfl (by kernel_rfl) func19 (by kernel_rfl)
    (of_decide_eq_true (by kernel_rfl)) (by unfold Func.isWrapper; first | (rw [if_pos (by decide +kernel)]; kernel_rfl) | (rw [if_neg (by decide +kernel)]; exact ⟨rfl, rfl⟩))
    (fun os started H enc _ => pinCrash_lifted os started H enc)
end Go.Proofs.Yticncfkpfpkfoaa
