/- WholeShares: for every input the law returns true, and its arguments read as they did. The tied card. -/
import Derived.Test.YtieejbkbdfccdaaDoorRows
import Derived.Test.YtieejbkbdfccdaaDoorCards
import Derived.Test.YtieejbkbdfccdaaDoorTie
import Derived.Test.YtieejbkbdfccdaaDoorSB
import Derived.Test.YtieejbkbdfccdaaDoorDFacts
import Derived.ProofKit
import Derived.OpenShut
import Derived.LaidMore
import Derived.Lay
import Derived.SevenTiedAt
import Derived.Stop.Joined
set_option linter.unusedVariables false
set_option linter.unusedSimpArgs false
namespace Go.Proofs.YtieejbkbdfccdaaDoor
open Go Go.ChangeShapes Go.WideShapes Go.ChangeAt Go.RowKit

theorem d51 : P.underlying 51 = some (.slice 60) := by kernel_rfl
theorem readable3 : P.readableRec 3 = true ∧ 3 < P.types.size := ⟨by kernel_rfl, of_decide_eq_true (by kernel_rfl)⟩
theorem readable25 : P.readableRec 25 = true ∧ 25 < P.types.size := ⟨by kernel_rfl, of_decide_eq_true (by kernel_rfl)⟩
theorem readable51 : P.readableRec 51 = true ∧ 51 < P.types.size := ⟨by kernel_rfl, of_decide_eq_true (by kernel_rfl)⟩
theorem fields60 : fieldsB P 60 [(3, 0), (27, 1)] = true := by kernel_rfl
section
variable {H : Type} {enc : TypeId × Value → H} {W : World}
set_option maxRecDepth 100000 in
theorem open_deed60 {fuel : Nat} {cs : List Value} {x : DataW H × List MemPlace} (h : DataW.trod enc P W 0 (fun _ => true) true fuel 60 cs = some x) : ∃ d : DeedP, cs = deV d ∧ DeOk W d := by
  obtain ⟨hl, hf⟩ := open_fields fields60 h
  rw [cellsOf60] at hl
  obtain ⟨c0, cs, rfl⟩ : ∃ c0 ds, cs = c0 :: ds := by
    cases cs with
    | nil => simp at hl
    | cons a b => exact ⟨a, b, rfl⟩
  obtain ⟨n0, y0, h0⟩ := hf (3, 0) (by simp)
  obtain ⟨n1, y1, h1⟩ := hf (27, 1) (by simp)
  have hl14 : cs.length = 14 := by simpa using hl
  simp only [cellsOf3, cellsOf27, List.drop_zero, List.drop_succ_cons, List.take_succ_cons, List.take_zero] at h0 h1
  rw [List.take_of_length_le (by omega)] at h1
  obtain ⟨k, rfl, hk⟩ := open_int1 d3 h0
  obtain ⟨a, la, c, rfl, ha⟩ := open_act1 h1
  exact ⟨⟨k, a, la, c⟩, rfl, wf_i64 hk, ha⟩
set_option maxRecDepth 100000 in
theorem open_deeds51 {r : Reach} {b0 : Nat} {v : Value} {d : DataW H} {p : List MemPlace} (hval : Value.okWide P W r b0 51 v) (h : DataW.Trod enc P W 0 (fun _ => true) true 51 v d p) : ∃ DL : List DeedP, RdV W v DL.length (flat deV DL) ∧ ∀ q ∈ DL, DeOk W q := by
  obtain ⟨fuel, hf⟩ := h
  exact open_rows (fc := deV) (Ok := DeOk W) dz d51 cellsOf60 (by omega) (fun _ => rfl) (okWide_slice d51 hval) (fun h => open_deed60 h) hf
set_option maxRecDepth 100000 in
theorem open_record25 {r : Reach} {b0 : Nat} {v : Value} {d : DataW H} {p : List MemPlace} (hval : Value.okWide P W r b0 25 v) (h : DataW.Trod enc P W 0 (fun _ => true) true 25 v d p) :
    ∃ (r : RecP) (la : Option Addr) (c : Nat), v = .agg (rcV r (.slice la r.list.length c)).toArray ∧ IsRec W (.slice la r.list.length c) r := by
  obtain ⟨fs, hu, _⟩ := fieldsB_und fields25
  obtain ⟨cs, rfl, _⟩ := okWide_struct hu hval
  obtain ⟨fuel, hf⟩ := h
  obtain ⟨r, la, c, hq, hr⟩ := open_rec25 (show DataW.trod enc P W 0 (fun _ => true) true fuel 25 cs.toList = _ from hf)
  refine ⟨r, la, c, ?_, hr⟩
  rw [← hq]
end

theorem func5 : Tryd.prog.funcs[5]? = some Tryd.f5 := by kernel_rfl
abbrev laidK : List (String × DataW Unit) := [("moiety/act.kinds", Rows.laid_moiety_act_kinds)]

set_option maxRecDepth 100000 in
theorem wholeShares_lifted (os : Os) (started : os.Started) (H : Type) (enc : TypeId × Value → H) :
    ReturnsInHanded {} Tryd.checked os 5 .any (fun w args => (Rows.wholeSharesSpec.pre enc Tryd.prog Tryd.f5 Rows.wholeSharesRow.domain false w args ∧ laidMetH Tryd.prog laidK w) ∧ sizedMet enc Tryd.prog Tryd.f5 (OpenSpec.ofChange Rows.wholeSharesSpec) false w args)
      (Rows.wholeSharesSpec.post enc Tryd.prog Tryd.f5 false true false false) := by
  refine returnsInHanded_of_change_and (C := Tryd.checked) (X := fun w _ => laidMetH Tryd.prog laidK w) (fun _ _ _ hh h => h.of_heap hh) own started (by kernel_rfl) func5
    (ChangeSpec.witness_shaped (enc := enc) (C := Tryd.checked) (os := os) (X := fun w _ => laidMetH Tryd.prog laidK w) false (World.laidAll Tryd.prog os laidK) #[.agg (rcV rz (.slice none 0 0)).toArray, .int .i64 0, .slice none 0 0] 8 (World.laidAll_os _ _ _)
      (World.shaped_of_ZipB (by kernel_rfl) (by kernel_rfl)) (by kernel_rfl) (by kernel_rfl) (by kernel_rfl)
      (by rw [MakeChecks.laidMetH_plain _ _ _ (by kernel_rfl)]; exact laidMet_laidAll _ (by kernel_rfl) (by kernel_rfl))) ?_
  intro W base args ds gs before hval0 hW hc _ hL _
  have hval : ∀ (j : Nat) t v, Tryd.f5.params[j]? = some t → args[j]? = some v → Value.okWide P W .any base t v := hval0
  have hW' := hW
  obtain ⟨p, q, hA0, hV, rfl, hfz, hnd⟩ := hW
  have hA : DataW.TrodAll enc P W 0 (fun _ => true) true Tryd.f5.params.toList args.toList ds p := hA0
  have hpar : Tryd.f5.params = #[25, 3, 51] := by kernel_rfl
  rw [hpar] at hA hval
  obtain ⟨v0, v1, v2, d0, d1, d2, p0, p1, p2, rfl, rfl, rfl, h0, h1, h2⟩ := trodAll_three hA
  obtain ⟨x0, l0, c0, rfl, r0⟩ := open_record25 (hval 0 25 v0 rfl rfl) h0
  obtain ⟨x1, rfl, _, _, r1⟩ := open_int d3 (hval 1 3 v1 rfl rfl) h1
  obtain ⟨x2, r2, q2⟩ := open_deeds51 (hval 2 51 v2 rfl rfl) h2
  have hlaw := wholeShares_law (kw_of_laid hL) r0 (wf_i64 r1) r2 q2
  refine hlaw.mono fun v W' hE => ?_
  obtain ⟨rfl, hfr⟩ := hE
  exact post_fr (P := P) (tb := 4) laidOut (fun t ht => by
    rw [hpar] at ht
    simp only [List.mem_cons, List.not_mem_nil, or_false] at ht
    rcases ht with rfl | rfl | rfl <;> first | exact readable25 | exact readable3 | exact readable51) rfl rfl (by kernel_rfl) und4 hW' hfr

theorem wholeShares_row : Rows.WholeSharesSaid :=
  OpenClaim.holds_of_wide 5 Tryd.f5 rfl rfl rfl rfl rfl rfl rfl ⟨rfl, rfl, rfl, rfl, rfl⟩ rfl rfl rfl rfl rfl (by kernel_rfl) func5 (by kernel_rfl)
    (of_decide_eq_true (by kernel_rfl)) (by unfold Func.isWrapper; first | (rw [if_pos (by decide +kernel)]; kernel_rfl) | (rw [if_neg (by decide +kernel)]; exact ⟨rfl, rfl⟩))
    (fun os started H enc _ => wholeShares_lifted os started H enc)
theorem wholeShares_holds : Rows.WholeSharesCardSaid :=
  Claim7.holds_tied_plain_at .later [] [.data] true (true, "ed6295f5aaac139cb3bb87e57eadfdb6eccfe3412346cde78e26a63490eb5540") false wholeShares_row (fun _ h => by cases h) (by kernel_rfl) (fun _ h => by cases h) wholeShares_row_tie rfl ⟨rfl, rfl⟩ (by kernel_rfl) rfl
    (fun f fn hf hfn => by
      obtain rfl : f = 5 := Option.some.inj ((show Tryd.prog.funcNamed "moiety/moietytop.WholeShares" = some 5 by kernel_rfl).symm.trans hf) |>.symm
      obtain rfl : fn = Tryd.f5 := (Option.some.inj (func5.symm.trans hfn)).symm
      have hpar : Tryd.f5.params = #[25, 3, 51] := by kernel_rfl
      exact ⟨by kernel_rfl, fun j t ht => by
        rw [hpar] at ht
        have hm : t ∈ [25, 3, 51] := by simpa using Array.mem_of_getElem? ht
        have hall : ([25, 3, 51].all fun u => !Tryd.prog.wantsStandIn u) = true := by kernel_rfl
        exact (show Tryd.prog.wantsStandIn t = false by simpa using List.all_eq_true.1 hall t hm)⟩)
    (by kernel_rfl)
end Go.Proofs.YtieejbkbdfccdaaDoor
