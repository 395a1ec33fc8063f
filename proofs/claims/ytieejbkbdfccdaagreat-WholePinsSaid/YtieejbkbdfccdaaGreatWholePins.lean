/- WholePins: for every input the law returns true, and its arguments read as they did. No condition. -/
import Derived.Test.YtieejbkbdfccdaaGreatRows
import Derived.Test.YtieejbkbdfccdaaGreatLE
import Derived.Test.YtieejbkbdfccdaaGreatLF
set_option linter.unusedVariables false
set_option linter.unusedSimpArgs false
namespace Go.Proofs.YtieejbkbdfccdaaGreat
open Go Go.ChangeShapes Go.WideShapes Go.ChangeAt Go.RowKit
theorem func3 : Tryz.prog.funcs[3]? = some Tryz.f3 := by kernel_rfl
set_option maxRecDepth 100000 in
theorem wholePins_lifted (os : Os) (started : os.Started) (H : Type) (enc : TypeId × Value → H) :
    ReturnsInHanded {} Tryz.checked os 3 .any (Rows.wholePinsSpec.pre6 enc Tryz.prog Tryz.f3 Rows.wholePinsRow.domain false) (Rows.wholePinsSpec.post enc Tryz.prog Tryz.f3 false true false false) := by
  refine returnsInHanded_of_change (C := Tryz.checked) own started (by kernel_rfl) func3
    (ChangeSpec.witness6 (enc := enc) (C := Tryz.checked) false ⟨#[], #[.slice none 0 0, .slice none 0 0, (Value.agg #[.int .i64 0, .slice none 0 0])], []⟩ 8 (by kernel_rfl) (by kernel_rfl) (by kernel_rfl) (by kernel_rfl)) ?_
  intro W base args ds gs before hval0 hW hcnd _
  have hval : ∀ (j : Nat) t v, Tryz.f3.params[j]? = some t → args[j]? = some v → Value.okWide P W .any base t v := hval0
  have hW' := hW
  obtain ⟨p, q, hA0, hV, rfl, hfz, hnd⟩ := hW
  have hA : DataW.TrodAll enc P W 0 (fun _ => true) true Tryz.f3.params.toList args.toList ds p := hA0
  have hpar : Tryz.f3.params = #[22, 22, 25] := by kernel_rfl
  rw [hpar] at hA hval
  obtain ⟨v0, v1, v2, d0, d1, d2, p0, p1, p2, rfl, rfl, rfl, h0, h1, h2⟩ := trodAll_three hA
  obtain ⟨KA, r0, q0⟩ := open_pairs22 (hval 0 22 v0 rfl rfl) h0
  obtain ⟨KB, r1, q1⟩ := open_pairs22 (hval 1 22 v1 rfl rfl) h1
  obtain ⟨at_, kept, ka, kc, rfl, hat, r2⟩ := open_fall25 (hval 2 25 v2 rfl rfl) h2
  obtain ⟨l0, c0, rfl⟩ := sl_of r0
  obtain ⟨l1, c1, rfl⟩ := sl_of r1
  have hlaw := wholePins_law r0 q0 r1 q1 r2 hat
  refine hlaw.mono fun v W' hE => ?_
  obtain ⟨rfl, hfr⟩ := hE
  exact post_fr (P := P) (tb := 4) laidOut (fun t ht => by
    rw [hpar] at ht
    simp only [List.mem_cons, List.not_mem_nil, or_false] at ht
    rcases ht with rfl | rfl | rfl <;> first | exact readable22 | exact readable25) rfl rfl (by kernel_rfl) und4 hW' hfr
theorem wholePins_holds : Rows.WholePinsSaid :=
  OpenClaim.holds_of_wide 3 Tryz.f3 rfl rfl rfl rfl rfl rfl rfl ⟨rfl, rfl, rfl, rfl, rfl⟩ rfl rfl rfl rfl rfl (by kernel_rfl) func3 (by kernel_rfl)
    (of_decide_eq_true (by kernel_rfl)) (by unfold Func.isWrapper; first | (rw [if_pos (by decide +kernel)]; kernel_rfl) | (rw [if_neg (by decide +kernel)]; exact ⟨rfl, rfl⟩))
    (fun os started H enc _ => wholePins_lifted os started H enc)
end Go.Proofs.YtieejbkbdfccdaaGreat
