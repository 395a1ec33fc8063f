/- WholeTraces: for every input the law returns true, and its arguments read as they did. The tied card. -/
import Derived.Test.YtieejbkbdfccdaaDoorRows
import Derived.Test.YtieejbkbdfccdaaDoorCards
import Derived.Test.YtieejbkbdfccdaaDoorTie
import Derived.Test.YtieejbkbdfccdaaDoorTB
import Derived.Test.YtieejbkbdfccdaaDoorDFacts
import Derived.ProofKit
import Derived.OpenShut
import Derived.LaidMore
import Derived.Lay
import Derived.SevenTiedAt
import Derived.Stop.Joined
set_option linter.unusedVariables false
set_option linter.unusedSimpArgs false
namespace Go.Proofs.YtieejbkbdfccdaaDoor
open Go Go.ChangeShapes Go.WideShapes Go.ChangeAt Go.RowKit

theorem d33 : P.underlying 33 = some (.slice 37) := by kernel_rfl
theorem d34 : P.underlying 34 = some (.slice 27) := by kernel_rfl
theorem d35 : P.underlying 35 = some (.slice 3) := by kernel_rfl
theorem readable33 : P.readableRec 33 = true ∧ 33 < P.types.size := ⟨by kernel_rfl, of_decide_eq_true (by kernel_rfl)⟩
theorem readable34 : P.readableRec 34 = true ∧ 34 < P.types.size := ⟨by kernel_rfl, of_decide_eq_true (by kernel_rfl)⟩
theorem readable35 : P.readableRec 35 = true ∧ 35 < P.types.size := ⟨by kernel_rfl, of_decide_eq_true (by kernel_rfl)⟩
theorem fields37 : fieldsB P 37 [(9, 0), (25, 1)] = true := by kernel_rfl
section
variable {H : Type} {enc : TypeId × Value → H} {W : World}
set_option maxRecDepth 100000 in
theorem open_kept37 {fuel : Nat} {cs : List Value} {x : DataW H × List MemPlace} (h : DataW.trod enc P W 0 (fun _ => true) true fuel 37 cs = some x) : ∃ k : KeptP, cs = keV k ∧ KeOk W k := by
  obtain ⟨hl, hf⟩ := open_fields fields37 h
  rw [cellsOf37] at hl
  obtain ⟨c0, cs, rfl⟩ : ∃ c0 ds, cs = c0 :: ds := by
    cases cs with
    | nil => simp at hl
    | cons a b => exact ⟨a, b, rfl⟩
  obtain ⟨n0, y0, h0⟩ := hf (9, 0) (by simp)
  obtain ⟨n1, y1, h1⟩ := hf (25, 1) (by simp)
  have hl8 : cs.length = 8 := by simpa using hl
  simp only [cellsOf9, cellsOf25, List.drop_zero, List.drop_succ_cons, List.take_succ_cons, List.take_zero] at h0 h1
  rw [List.take_of_length_le (by omega)] at h1
  obtain ⟨y, rfl, _⟩ := open_str1 d9 h0
  obtain ⟨r, la, c, rfl, hr⟩ := open_rec25 h1
  exact ⟨⟨y, r, la, c⟩, rfl, hr⟩
set_option maxRecDepth 100000 in
theorem open_act34 {fuel : Nat} {cs : List Value} {x : DataW H × List MemPlace} (h : DataW.trod enc P W 0 (fun _ => true) true fuel 27 cs = some x) : ∃ a : ActR, cs = acR a ∧ AcOk W a := by
  obtain ⟨a, la, c, rfl, ha⟩ := open_act1 h
  exact ⟨⟨a, la, c⟩, rfl, ha⟩
set_option maxRecDepth 100000 in
theorem open_kepts33 {r : Reach} {b0 : Nat} {v : Value} {d : DataW H} {p : List MemPlace} (hval : Value.okWide P W r b0 33 v) (h : DataW.Trod enc P W 0 (fun _ => true) true 33 v d p) : ∃ L : List KeptP, RdV W v L.length (flat keV L) ∧ ∀ q ∈ L, KeOk W q := by
  obtain ⟨fuel, hf⟩ := h
  exact open_rows (fc := keV) (Ok := KeOk W) kz d33 cellsOf37 (by omega) (fun _ => rfl) (okWide_slice d33 hval) (fun h => open_kept37 h) hf
set_option maxRecDepth 100000 in
theorem open_acts34 {r : Reach} {b0 : Nat} {v : Value} {d : DataW H} {p : List MemPlace} (hval : Value.okWide P W r b0 34 v) (h : DataW.Trod enc P W 0 (fun _ => true) true 34 v d p) : ∃ L : List ActR, RdV W v L.length (flat acR L) ∧ ∀ q ∈ L, AcOk W q := by
  obtain ⟨fuel, hf⟩ := h
  exact open_rows (fc := acR) (Ok := AcOk W) ⟨⟨0, [], 0, 0, [], rz, false⟩, none, 0⟩ d34 cellsOf27 (by omega) (fun _ => rfl) (okWide_slice d34 hval) (fun h => open_act34 h) hf
set_option maxRecDepth 100000 in
theorem open_ints35 {r : Reach} {b0 : Nat} {v : Value} {d : DataW H} {p : List MemPlace} (hval : Value.okWide P W r b0 35 v) (h : DataW.Trod enc P W 0 (fun _ => true) true 35 v d p) : ∃ L : List Int, RdV W v L.length (L.map i64) := by
  obtain ⟨fuel, hf⟩ := h
  obtain ⟨a, l, c, rfl⟩ := okWide_slice d35 hval
  obtain ⟨L, hL, _⟩ := open_slice_ints d35 d3 cellsOf3 (by kernel_rfl) (show DataW.trod enc P W 0 (fun _ => true) true fuel 35 [Value.slice a l c] = _ from hf)
  exact ⟨L, hL⟩
end

theorem func4 : Tryd.prog.funcs[4]? = some Tryd.f4 := by kernel_rfl
abbrev laidT : List (String × DataW Unit) := [("moiety/act.kinds", Rows.laid_moiety_act_kinds)]

set_option maxRecDepth 100000 in
theorem wholeTraces_lifted (os : Os) (started : os.Started) (H : Type) (enc : TypeId × Value → H) :
    ReturnsInHanded {} Tryd.checked os 4 .any (fun w args => (Rows.wholeTracesSpec.pre enc Tryd.prog Tryd.f4 Rows.wholeTracesRow.domain false w args ∧ laidMetH Tryd.prog laidT w) ∧ sizedMet enc Tryd.prog Tryd.f4 (OpenSpec.ofChange Rows.wholeTracesSpec) false w args)
      (Rows.wholeTracesSpec.post enc Tryd.prog Tryd.f4 false true false false) := by
  refine returnsInHanded_of_change_and (C := Tryd.checked) (X := fun w _ => laidMetH Tryd.prog laidT w) (fun _ _ _ hh h => h.of_heap hh) own started (by kernel_rfl) func4
    (ChangeSpec.witness_shaped (enc := enc) (C := Tryd.checked) (os := os) (X := fun w _ => laidMetH Tryd.prog laidT w) false (World.laidAll Tryd.prog os laidT) #[.slice none 0 0, .slice none 0 0, .slice none 0 0] 8 (World.laidAll_os _ _ _)
      (World.shaped_of_ZipB (by kernel_rfl) (by kernel_rfl)) (by kernel_rfl) (by kernel_rfl) (by kernel_rfl)
      (by rw [MakeChecks.laidMetH_plain _ _ _ (by kernel_rfl)]; exact laidMet_laidAll _ (by kernel_rfl) (by kernel_rfl))) ?_
  intro W base args ds gs before hval0 hW hc _ hL _
  have hval : ∀ (j : Nat) t v, Tryd.f4.params[j]? = some t → args[j]? = some v → Value.okWide P W .any base t v := hval0
  have hW' := hW
  obtain ⟨p, q, hA0, hV, rfl, hfz, hnd⟩ := hW
  have hA : DataW.TrodAll enc P W 0 (fun _ => true) true Tryd.f4.params.toList args.toList ds p := hA0
  have hpar : Tryd.f4.params = #[33, 34, 35] := by kernel_rfl
  rw [hpar] at hA hval
  obtain ⟨v0, v1, v2, d0, d1, d2, p0, p1, p2, rfl, rfl, rfl, h0, h1, h2⟩ := trodAll_three hA
  obtain ⟨KL, r0, q0⟩ := open_kepts33 (hval 0 33 v0 rfl rfl) h0
  obtain ⟨AL, r1, q1⟩ := open_acts34 (hval 1 34 v1 rfl rfl) h1
  obtain ⟨SL, r2⟩ := open_ints35 (hval 2 35 v2 rfl rfl) h2
  obtain ⟨l0, c0, rfl⟩ := sl_of r0
  obtain ⟨l1, c1, rfl⟩ := sl_of r1
  obtain ⟨l2, c2, rfl⟩ := sl_of r2
  have hlaw := wholeTraces_law (kw_of_laid hL) r0 q0 r1 q1 r2
  refine hlaw.mono fun v W' hE => ?_
  obtain ⟨rfl, hfr⟩ := hE
  exact post_fr (P := P) (tb := 4) laidOut (fun t ht => by
    rw [hpar] at ht
    simp only [List.mem_cons, List.not_mem_nil, or_false] at ht
    rcases ht with rfl | rfl | rfl <;> first | exact readable33 | exact readable34 | exact readable35) rfl rfl (by kernel_rfl) und4 hW' hfr

theorem wholeTraces_row : Rows.WholeTracesSaid :=
  OpenClaim.holds_of_wide 4 Tryd.f4 rfl rfl rfl rfl rfl rfl rfl ⟨rfl, rfl, rfl, rfl, rfl⟩ rfl rfl rfl rfl rfl (by kernel_rfl) func4 (by kernel_rfl)
    (of_decide_eq_true (by kernel_rfl)) (by unfold Func.isWrapper; first | (rw [if_pos (by decide +kernel)]; kernel_rfl) | (rw [if_neg (by decide +kernel)]; exact ⟨rfl, rfl⟩))
    (fun os started H enc _ => wholeTraces_lifted os started H enc)
theorem wholeTraces_holds : Rows.WholeTracesCardSaid :=
  Claim7.holds_tied_plain_at .later [] [.data] true (true, "ed6295f5aaac139cb3bb87e57eadfdb6eccfe3412346cde78e26a63490eb5540") false wholeTraces_row (fun _ h => by cases h) (by kernel_rfl) (fun _ h => by cases h) wholeTraces_row_tie rfl ⟨rfl, rfl⟩ (by kernel_rfl) rfl
    (fun f fn hf hfn => by
      obtain rfl : f = 4 := Option.some.inj ((show Tryd.prog.funcNamed "moiety/moietytop.WholeTraces" = some 4 by kernel_rfl).symm.trans hf) |>.symm
      obtain rfl : fn = Tryd.f4 := (Option.some.inj (func4.symm.trans hfn)).symm
      have hpar : Tryd.f4.params = #[33, 34, 35] := by kernel_rfl
      exact ⟨by kernel_rfl, fun j t ht => by
        rw [hpar] at ht
        have hm : t ∈ [33, 34, 35] := by simpa using Array.mem_of_getElem? ht
        have hall : ([33, 34, 35].all fun u => !Tryd.prog.wantsStandIn u) = true := by kernel_rfl
        exact (show Tryd.prog.wantsStandIn t = false by simpa using List.all_eq_true.1 hall t hm)⟩)
    (by kernel_rfl)
end Go.Proofs.YtieejbkbdfccdaaDoor
