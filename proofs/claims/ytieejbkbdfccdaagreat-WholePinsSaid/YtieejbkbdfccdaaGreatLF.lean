/- Facts on the program that the row asks for; what came in, opened. -/
import Derived.Test.YtieejbkbdfccdaaGreatRow
import Derived.Test.YtieejbkbdfccdaaGreatTypes
import Derived.Test.YtieejbkbdfccdaaGreatChecked
import Derived.Test.YtieejbkbdfccdaaGreatFloPrims
import Derived.Test.YtieejbkbdfccdaaGreatOpen
import Derived.Test.YtieejbkbdfccdaaGreatKY
set_option linter.unusedVariables false
set_option linter.unusedSimpArgs false
namespace Go.Proofs.YtieejbkbdfccdaaGreat
open Go Go.ChangeShapes Go.WideShapes Go.ChangeAt Go.RowKit
theorem own : ownKnob Tryz.prog.godebug = none := by kernel_rfl
theorem laidOut : laidOutB P = true := by kernel_rfl
theorem d2 : P.underlying 2 = some (.int .i64) := by kernel_rfl
theorem d3 : P.underlying 3 = some (.int .i64) := by kernel_rfl
theorem d9 : P.underlying 9 = some .string := by kernel_rfl
theorem d58 : P.underlying 58 = some (.float .f64) := by kernel_rfl
theorem d59 : P.underlying 59 = some (.slice 105) := by kernel_rfl
theorem d22 : P.underlying 22 = some (.slice 63) := by kernel_rfl
theorem d23 : P.underlying 23 = some (.slice 3) := by kernel_rfl
theorem readable22 : P.readableRec 22 = true ∧ 22 < P.types.size := ⟨by kernel_rfl, of_decide_eq_true (by kernel_rfl)⟩
theorem readable25 : P.readableRec 25 = true ∧ 25 < P.types.size := ⟨by kernel_rfl, of_decide_eq_true (by kernel_rfl)⟩
theorem fields105 : fieldsB P 105 [(58, 0), (9, 1)] = true := by kernel_rfl
theorem fields61 : fieldsB P 61 [(3, 0), (2, 1), (2, 2), (2, 3), (58, 4), (3, 5), (9, 6), (59, 7)] = true := by kernel_rfl
theorem fields63 : fieldsB P 63 [(9, 0), (61, 1)] = true := by kernel_rfl
theorem fields25 : fieldsB P 25 [(3, 0), (23, 1)] = true := by kernel_rfl
theorem wf_f64 {a : Nat} (hw : (Lit.float .f64 a).wf = true) : a < 2 * H63 := by
  simpa [Lit.wf, FloatKind.format, Ieee.Format.width, Ieee.double, H63] using hw
theorem len2 {cs : List Value} (h : cs.length = 2) : ∃ a b, cs = [a, b] := by
  match cs, h with | [a, b], _ => exact ⟨a, b, rfl⟩
theorem len8 {cs : List Value} (h : cs.length = 8) : ∃ a b c d e f g i, cs = [a, b, c, d, e, f, g, i] := by
  match cs, h with | [a, b, c, d, e, f, g, i], _ => exact ⟨a, b, c, d, e, f, g, i, rfl⟩
section
variable {H : Type} {enc : TypeId × Value → H} {W : World}
theorem open_item105 {fuel : Nat} {cs : List Value} {x : DataW H × List MemPlace} (h : DataW.trod enc P W 0 (fun _ => true) true fuel 105 cs = some x) : ∃ q : ItemP, cs = itemV q ∧ okI q := by
  obtain ⟨hl, hf⟩ := open_fields fields105 h
  rw [cellsOf105] at hl
  obtain ⟨c0, c1, rfl⟩ := len2 hl
  obtain ⟨n0, y0, h0⟩ := hf (58, 0) (by simp)
  obtain ⟨n1, y1, h1⟩ := hf (9, 1) (by simp)
  simp only [cellsOf58, cellsOf9, List.drop_zero, List.drop_succ_cons, List.take_succ_cons, List.take_zero] at h0 h1
  obtain ⟨a, rfl, ha⟩ := open_float1 d58 h0
  obtain ⟨s, rfl, _⟩ := open_str1 d9 h1
  exact ⟨⟨a, s⟩, rfl, wf_f64 ha⟩
theorem open_rec61 {fuel : Nat} {cs : List Value} {x : DataW H × List MemPlace} (h : DataW.trod enc P W 0 (fun _ => true) true fuel 61 cs = some x) :
    ∃ (r : RecP) (a : Option Addr) (c : Nat), cs = rcV r (.slice a r.list.length c) ∧ IsRec W (.slice a r.list.length c) r := by
  obtain ⟨hl, hf⟩ := open_fields fields61 h
  rw [cellsOf61] at hl
  obtain ⟨c0, c1, c2, c3, c4, c5, c6, c7, rfl⟩ := len8 hl
  obtain ⟨n0, y0, h0⟩ := hf (3, 0) (by simp)
  obtain ⟨n1, y1, h1⟩ := hf (2, 1) (by simp)
  obtain ⟨n2, y2, h2⟩ := hf (2, 2) (by simp)
  obtain ⟨n3, y3, h3⟩ := hf (2, 3) (by simp)
  obtain ⟨n4, y4, h4⟩ := hf (58, 4) (by simp)
  obtain ⟨n5, y5, h5⟩ := hf (3, 5) (by simp)
  obtain ⟨n6, y6, h6⟩ := hf (9, 6) (by simp)
  obtain ⟨n7, y7, h7⟩ := hf (59, 7) (by simp)
  simp only [cellsOf2, cellsOf3, cellsOf58, cellsOf9, cellsOf59, List.drop_zero, List.drop_succ_cons, List.take_succ_cons, List.take_zero] at h0 h1 h2 h3 h4 h5 h6 h7
  obtain ⟨k, rfl, hk⟩ := open_int1 d3 h0
  obtain ⟨z1, rfl, hz1⟩ := open_int1 d2 h1
  obtain ⟨z2, rfl, hz2⟩ := open_int1 d2 h2
  obtain ⟨z3, rfl, hz3⟩ := open_int1 d2 h3
  obtain ⟨a, rfl, ha⟩ := open_float1 d58 h4
  obtain ⟨z5, rfl, hz5⟩ := open_int1 d3 h5
  obtain ⟨s, rfl, _⟩ := open_str1 d9 h6
  have hct : ∃ a len cap, c7 = .slice a len cap := by
    rcases Deep.open_slice d59 h7 with ⟨h0, _⟩ | ⟨ad, len', cap', m, n', D, Pl, hcs, _⟩
    · simp only [List.cons.injEq, and_true] at h0; exact ⟨_, _, _, h0⟩
    · simp only [List.cons.injEq, and_true] at hcs; exact ⟨_, _, _, hcs⟩
  have h7' : DataW.trod enc P W 0 (fun _ => true) true n7 59 c7.cells.toList = some y7 := by obtain ⟨a, l, c, rfl⟩ := hct; exact h7
  obtain ⟨L, hL, hok⟩ := open_rows (fc := itemV) (Ok := okI) (W := W) ⟨0, []⟩ d59 cellsOf105 (by omega) (fun _ => rfl) hct (fun h => open_item105 h) h7'
  obtain ⟨la, c, rfl⟩ := sl_of hL
  exact ⟨⟨k, z1, z2, z3, a, z5, s, L⟩, la, c, rfl, hL, wf_i64 hk, wf_i64 hz1, wf_i64 hz2, wf_i64 hz3, wf_f64 ha, wf_i64 hz5, hok⟩
set_option maxRecDepth 100000 in
theorem open_pair63 {fuel : Nat} {cs : List Value} {x : DataW H × List MemPlace} (h : DataW.trod enc P W 0 (fun _ => true) true fuel 63 cs = some x) : ∃ k : PrP, cs = prV k ∧ PrOk W k := by
  obtain ⟨hl, hf⟩ := open_fields fields63 h
  rw [cellsOf63] at hl
  obtain ⟨c0, cs, rfl⟩ : ∃ c0 ds, cs = c0 :: ds := by
    cases cs with
    | nil => simp at hl
    | cons a b => exact ⟨a, b, rfl⟩
  obtain ⟨n0, y0, h0⟩ := hf (9, 0) (by simp)
  obtain ⟨n1, y1, h1⟩ := hf (61, 1) (by simp)
  have hl8 : cs.length = 8 := by simpa using hl
  simp only [cellsOf9, cellsOf61, List.drop_zero, List.drop_succ_cons, List.take_succ_cons, List.take_zero] at h0 h1
  rw [List.take_of_length_le (by omega)] at h1
  obtain ⟨y, rfl, _⟩ := open_str1 d9 h0
  obtain ⟨r, la, c, rfl, hr⟩ := open_rec61 h1
  exact ⟨⟨y, r, la, c⟩, rfl, hr⟩
set_option maxRecDepth 100000 in
theorem open_pairs22 {r : Reach} {b0 : Nat} {v : Value} {d : DataW H} {p : List MemPlace} (hval : Value.okWide P W r b0 22 v) (h : DataW.Trod enc P W 0 (fun _ => true) true 22 v d p) : ∃ L : List PrP, RdV W v L.length (flat prV L) ∧ ∀ q ∈ L, PrOk W q := by
  obtain ⟨fuel, hf⟩ := h
  exact open_rows (fc := prV) (Ok := PrOk W) ⟨[], rz, none, 0⟩ d22 cellsOf63 (by omega) (fun _ => rfl) (okWide_slice d22 hval) (fun h => open_pair63 h) hf
set_option maxRecDepth 100000 in
theorem open_fall25 {r : Reach} {b0 : Nat} {v : Value} {d : DataW H} {p : List MemPlace} (hval : Value.okWide P W r b0 25 v) (h : DataW.Trod enc P W 0 (fun _ => true) true 25 v d p) :
    ∃ (at_ : Int) (kept : List Int) (ka : Option Addr) (kc : Nat), v = .agg #[i64 at_, .slice ka kept.length kc] ∧ at_ < 9223372036854775808 ∧ RdV W (.slice ka kept.length kc) kept.length (kept.map (Value.int .i64)) := by
  obtain ⟨fs, hu, _⟩ := fieldsB_und fields25
  obtain ⟨cs, rfl, _⟩ := okWide_struct hu hval
  obtain ⟨fuel, hf⟩ := h
  obtain ⟨hl, hq⟩ := open_fields fields25 (show DataW.trod enc P W 0 (fun _ => true) true fuel 25 cs.toList = _ from hf)
  rw [cellsOf25] at hl
  obtain ⟨c0, c1, hcs⟩ := len2 hl
  rw [hcs] at hq
  obtain ⟨n0, y0, h0⟩ := hq (3, 0) (by simp)
  obtain ⟨n1, y1, h1⟩ := hq (23, 1) (by simp)
  simp only [cellsOf3, cellsOf23, List.drop_zero, List.drop_succ_cons, List.take_succ_cons, List.take_zero] at h0 h1
  obtain ⟨k, rfl, hk⟩ := open_int1 d3 h0
  obtain ⟨L, hL, _⟩ := open_slice_ints d23 d3 cellsOf3 (by kernel_rfl) h1
  obtain ⟨ka, kc, rfl⟩ := sl_of hL
  exact ⟨k, L, ka, kc, by rw [← hcs], (wf_i64 hk).2, hL⟩
end
end Go.Proofs.YtieejbkbdfccdaaGreat
