/- Parts, bytes, texts and yes-or-noes that came in, opened. -/
import Derived.Test.YtfmcplkijjndlaaFacts
import Derived.Test.YtfmcplkijjndlaaOpen
import Derived.Test.YtfmcplkijjndlaaPackC
set_option linter.unusedVariables false
set_option linter.unusedSimpArgs false
namespace Go.Proofs.Ytfmcplkijjndlaa
open Go Go.ChangeShapes Go.WideShapes

theorem und2o : P.underlying 2 = some (.int .i64) := by kernel_rfl
theorem und3o : P.underlying 3 = some (.int .i64) := by kernel_rfl
theorem und4o : P.underlying 4 = some .bool := by kernel_rfl
theorem und5o : P.underlying 5 = some (.int .u8) := by kernel_rfl
theorem und9o : P.underlying 9 = some .string := by kernel_rfl
theorem und37 : P.underlying 37 = some (.slice 60) := by kernel_rfl
theorem und40 : P.underlying 40 = some (.slice 5) := by kernel_rfl
theorem und68 : P.underlying 68 = some (.slice 4) := by kernel_rfl
theorem readable3 : P.readableRec 3 = true ∧ 3 < P.types.size := ⟨by kernel_rfl, of_decide_eq_true (by kernel_rfl)⟩
theorem readable5 : P.readableRec 5 = true ∧ 5 < P.types.size := ⟨by kernel_rfl, of_decide_eq_true (by kernel_rfl)⟩
theorem readable9 : P.readableRec 9 = true ∧ 9 < P.types.size := ⟨by kernel_rfl, of_decide_eq_true (by kernel_rfl)⟩
theorem readable37 : P.readableRec 37 = true ∧ 37 < P.types.size := ⟨by kernel_rfl, of_decide_eq_true (by kernel_rfl)⟩
theorem readable40 : P.readableRec 40 = true ∧ 40 < P.types.size := ⟨by kernel_rfl, of_decide_eq_true (by kernel_rfl)⟩
theorem readable68 : P.readableRec 68 = true ∧ 68 < P.types.size := ⟨by kernel_rfl, of_decide_eq_true (by kernel_rfl)⟩

variable {H : Type} {enc : TypeId × Value → H}

theorem six_of {cs : List Value} (hl : cs.length = 6) : ∃ c0 c1 c2 c3 c4 c5, cs = [c0, c1, c2, c3, c4, c5] := by
  match cs, hl with
  | [c0, c1, c2, c3, c4, c5], _ => exact ⟨c0, c1, c2, c3, c4, c5, rfl⟩
theorem fields60 : fieldsB P 60 [(5, 0), (25, 1), (2, 2), (22, 3), (9, 4), (4, 5)] = true := by kernel_rfl
theorem open_u8 {n : Int} (h : (Lit.int .u8 n).wf = true) : ∃ f : UInt8, Value.int .u8 n = bv f := by
  have hfb := wf_u8 h
  refine ⟨UInt8.ofNat n.toNat, ?_⟩
  simp only [bv, Value.int.injEq, true_and]
  have : (UInt8.ofNat n.toNat).toNat = n.toNat := by simp; omega
  rw [this]; omega
theorem wf_u64 {n : Int} (hw : (Lit.int .u64 n).wf = true) : ∃ a : Nat, Value.int .u64 n = u64 a ∧ a < 2 * H63 := by
  simp only [Lit.wf, Bool.and_eq_true, decide_eq_true_eq] at hw
  have h1 : IntKind.u64.min = 0 := by decide
  have h2 : IntKind.u64.max = 18446744073709551615 := by decide
  rw [h1, h2] at hw
  refine ⟨n.toNat, ?_, by unfold H63; omega⟩
  show Value.int .u64 n = Value.int .u64 (n.toNat : Int)
  congr 1
  omega
theorem wf_f64 {a : Nat} (hw : (Lit.float .f64 a).wf = true) : a < 2 * H63 := by
  simpa [Lit.wf, FloatKind.format, Ieee.Format.width, Ieee.double, H63] using hw
set_option maxRecDepth 100000 in
theorem open_part {W : World} {fuel : Nat} {cs : List Value} {x : DataW H × List MemPlace} (h : DataW.trod enc P W 0 (fun _ => true) true fuel 60 cs = some x) : ∃ p : PartP, cs = partC p ∧ okP p := by
  obtain ⟨hl, hf⟩ := open_fields fields60 h
  rw [cellsOf60] at hl
  obtain ⟨c0, c1, c2, c3, c4, c5, rfl⟩ := six_of hl
  obtain ⟨n0, y0, h0⟩ := hf (5, 0) (by simp)
  obtain ⟨n1, y1, h1⟩ := hf (25, 1) (by simp)
  obtain ⟨n2, y2, h2⟩ := hf (2, 2) (by simp)
  obtain ⟨n3, y3, h3⟩ := hf (22, 3) (by simp)
  obtain ⟨n4, y4, h4⟩ := hf (9, 4) (by simp)
  obtain ⟨n5, y5, h5⟩ := hf (4, 5) (by simp)
  simp only [cellsOf2, cellsOf5, cellsOf25, cellsOf22, cellsOf9, cellsOf4, List.drop_zero, List.drop_succ_cons, List.take_succ_cons, List.take_zero] at h0 h1 h2 h3 h4 h5
  obtain ⟨k, rfl, hk⟩ := open_int1 und5o h0
  obtain ⟨f, hk⟩ := open_u8 hk
  obtain ⟨u, rfl, hu⟩ := open_int1 undU h1
  obtain ⟨u', hu, hu2⟩ := wf_u64 hu
  obtain ⟨i, rfl, hi⟩ := open_int1 und2o h2
  obtain ⟨a, rfl, ha⟩ := open_float1 undF h3
  obtain ⟨s, rfl, hs⟩ := open_str1 und9o h4
  obtain ⟨b, rfl⟩ := open_bool1 und4o h5
  rw [hk, hu]
  exact ⟨⟨f, u', i, a, s, b⟩, rfl, hu2, wf_i64 hi, wf_f64 ha⟩
theorem open_slice37 {W : World} {r : Reach} {b0 : Nat} {v : Value} {d : DataW H} {p : List MemPlace} (hval : Value.okWide P W r b0 37 v) (h : DataW.Trod enc P W 0 (fun _ => true) true 37 v d p) : ∃ L, IsParts W v L := by
  obtain ⟨fuel, hf⟩ := h
  exact open_rows (fc := partC) (Ok := okP) ⟨0, 0, 0, 0, [], false⟩ und37 cellsOf60 (by omega) (fun _ => rfl) (okWide_slice und37 hval) (fun h => open_part h) hf
theorem open_bool4 {W : World} {fuel : Nat} {cs : List Value} {x : DataW H × List MemPlace} (h : DataW.trod enc P W 0 (fun _ => true) true fuel 4 cs = some x) : ∃ p : Bool, cs = [Value.bool p] ∧ True := by
  have hl : ∃ v, cs = [v] := by
    cases fuel with
    | zero => simp [DataW.trod] at h
    | succ fuel =>
      unfold DataW.trod at h
      simp only [und4o] at h
      split at h <;> first | exact ⟨_, rfl⟩ | simp_all
  obtain ⟨v, rfl⟩ := hl
  obtain ⟨b, rfl⟩ := open_bool1 und4o h
  exact ⟨b, rfl, trivial⟩
theorem open_slice68 {W : World} {r : Reach} {b0 : Nat} {v : Value} {d : DataW H} {p : List MemPlace} (hval : Value.okWide P W r b0 68 v) (h : DataW.Trod enc P W 0 (fun _ => true) true 68 v d p) : ∃ L : List Bool, RdV W v L.length (L.map Value.bool) := by
  obtain ⟨fuel, hf⟩ := h
  obtain ⟨L, hL, _⟩ := open_rows (fc := fun b : Bool => [Value.bool b]) (Ok := fun _ => True) false und68 cellsOf4 (by omega) (fun _ => rfl) (okWide_slice und68 hval) (fun h => open_bool4 h) hf
  refine ⟨L, ?_⟩
  have : ∀ L : List Bool, flat (fun b : Bool => [Value.bool b]) L = L.map Value.bool := by
    intro L
    induction L with
    | nil => rfl
    | cons a L ih => simpa [flat] using ih
  rw [this] at hL
  exact hL
theorem open_string9 {W : World} {r : Reach} {b0 : Nat} {v : Value} {d : DataW H} {p : List MemPlace} (hval : Value.okWide P W r b0 9 v) (h : DataW.Trod enc P W 0 (fun _ => true) true 9 v d p) : ∃ s, v = strB s ∧ s.length ≤ maxLen := open_string und9o hval h
end Go.Proofs.Ytfmcplkijjndlaa
