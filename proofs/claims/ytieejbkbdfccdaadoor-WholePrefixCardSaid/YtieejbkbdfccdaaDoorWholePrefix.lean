/- WholePrefix: for every input the law returns true, and its arguments read as they did. The tied card. -/
import Derived.Test.YtieejbkbdfccdaaDoorRows
import Derived.Test.YtieejbkbdfccdaaDoorCards
import Derived.Test.YtieejbkbdfccdaaDoorTie
import Derived.Test.YtieejbkbdfccdaaDoorR15
import Derived.Test.YtieejbkbdfccdaaDoorDFacts
import Derived.ProofKit
import Derived.OpenShut
import Derived.LaidMore
import Derived.Lay
import Derived.SevenTiedAt
import Derived.Stop.Joined
set_option linter.unusedVariables false
set_option linter.unusedSimpArgs false
namespace Go.Proofs.YtieejbkbdfccdaaDoor
open Go Go.ChangeShapes Go.WideShapes Go.ChangeAt Go.RowKit

theorem func3 : Tryd.prog.funcs[3]? = some Tryd.f3 := by kernel_rfl
abbrev laidK : List (String × DataW Unit) := [("moiety/act.kinds", Rows.laid_moiety_act_kinds)]

set_option maxRecDepth 100000 in
theorem wholePrefix_lifted (os : Os) (started : os.Started) (H : Type) (enc : TypeId × Value → H) :
    ReturnsInHanded {} Tryd.checked os 3 .any (fun w args => (Rows.wholePrefixSpec.pre enc Tryd.prog Tryd.f3 Rows.wholePrefixRow.domain false w args ∧ laidMetH Tryd.prog laidK w) ∧ sizedMet enc Tryd.prog Tryd.f3 (OpenSpec.ofChange Rows.wholePrefixSpec) false w args)
      (Rows.wholePrefixSpec.post enc Tryd.prog Tryd.f3 false true false false) := by
  refine returnsInHanded_of_change_and (C := Tryd.checked) (X := fun w _ => laidMetH Tryd.prog laidK w) (fun _ _ _ hh h => h.of_heap hh) own started (by kernel_rfl) func3
    (ChangeSpec.witness_shaped (enc := enc) (C := Tryd.checked) (os := os) (X := fun w _ => laidMetH Tryd.prog laidK w) false (World.laidAll Tryd.prog os laidK) #[.agg (acV ⟨0, [], 0, 0, [], rz, false⟩ (.slice none 0 0)).toArray, .agg (acV ⟨0, [], 0, 0, [], rz, false⟩ (.slice none 0 0)).toArray] 8 (World.laidAll_os _ _ _)
      (World.shaped_of_ZipB (by kernel_rfl) (by kernel_rfl)) (by kernel_rfl) (by kernel_rfl) (by kernel_rfl)
      (by rw [MakeChecks.laidMetH_plain _ _ _ (by kernel_rfl)]; exact laidMet_laidAll _ (by kernel_rfl) (by kernel_rfl))) ?_
  intro W base args ds gs before hval0 hW hc _ hL _
  have hval : ∀ (j : Nat) t v, Tryd.f3.params[j]? = some t → args[j]? = some v → Value.okWide P W .any base t v := hval0
  have hW' := hW
  obtain ⟨p, q, hA0, hV, rfl, hfz, hnd⟩ := hW
  have hA : DataW.TrodAll enc P W 0 (fun _ => true) true Tryd.f3.params.toList args.toList ds p := hA0
  have hpar : Tryd.f3.params = #[27, 27] := by kernel_rfl
  rw [hpar] at hA hval
  obtain ⟨v0, v1, d0, d1, p0, p1, rfl, rfl, rfl, h0, h1⟩ := trodAll_two hA
  obtain ⟨x0, l0, c0, rfl, r0⟩ := open_act27 (hval 0 27 v0 rfl rfl) h0
  obtain ⟨x1, l1, c1, rfl, r1⟩ := open_act27 (hval 1 27 v1 rfl rfl) h1
  have hlaw := wholePrefix_law (kw_of_laid hL) r0 r1
  refine hlaw.mono fun v W' hE => ?_
  obtain ⟨rfl, hfr⟩ := hE
  exact post_fr (P := P) (tb := 4) laidOut (fun t ht => by
    rw [hpar] at ht
    simp only [List.mem_cons, List.not_mem_nil, or_false] at ht
    rcases ht with rfl | rfl <;> exact readable27) rfl rfl (by kernel_rfl) und4 hW' hfr

theorem wholePrefix_row : Rows.WholePrefixSaid :=
  OpenClaim.holds_of_wide 3 Tryd.f3 rfl rfl rfl rfl rfl rfl rfl ⟨rfl, rfl, rfl, rfl, rfl⟩ rfl rfl rfl rfl rfl (by kernel_rfl) func3 (by kernel_rfl)
    (of_decide_eq_true (by kernel_rfl)) (by unfold Func.isWrapper; first | (rw [if_pos (by decide +kernel)]; kernel_rfl) | (rw [if_neg (by decide +kernel)]; exact ⟨rfl, rfl⟩))
    (fun os started H enc _ => wholePrefix_lifted os started H enc)
theorem wholePrefix_holds : Rows.WholePrefixCardSaid :=
  Claim7.holds_tied_plain_at .later [] [.data] true (true, "ed6295f5aaac139cb3bb87e57eadfdb6eccfe3412346cde78e26a63490eb5540") false wholePrefix_row (fun _ h => by cases h) (by kernel_rfl) (fun _ h => by cases h) wholePrefix_row_tie rfl ⟨rfl, rfl⟩ (by kernel_rfl) rfl
    (fun f fn hf hfn => by
      obtain rfl : f = 3 := Option.some.inj ((show Tryd.prog.funcNamed "moiety/moietytop.WholePrefix" = some 3 by kernel_rfl).symm.trans hf) |>.symm
      obtain rfl : fn = Tryd.f3 := (Option.some.inj (func3.symm.trans hfn)).symm
      have hpar : Tryd.f3.params = #[27, 27] := by kernel_rfl
      exact ⟨by kernel_rfl, fun j t ht => by
        rw [hpar] at ht
        have hm : t ∈ [27, 27] := by simpa using Array.mem_of_getElem? ht
        have hall : ([27, 27].all fun u => !Tryd.prog.wantsStandIn u) = true := by kernel_rfl
        exact (show Tryd.prog.wantsStandIn t = false by simpa using List.all_eq_true.1 hall t hm)⟩)
    (by kernel_rfl)
end Go.Proofs.YtieejbkbdfccdaaDoor
