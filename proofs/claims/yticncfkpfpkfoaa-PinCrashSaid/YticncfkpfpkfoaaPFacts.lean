/- Pins and sectors that came in, opened. -/
import Derived.Test.YticncfkpfpkfoaaFacts
import Derived.Test.YticncfkpfpkfoaaOpen
import Derived.Test.YticncfkpfpkfoaaPinM
set_option linter.unusedVariables false
set_option linter.unusedSimpArgs false
namespace Go.Proofs.Yticncfkpfpkfoaa
open Go Go.ChangeShapes Go.WideShapes

theorem und87 : P.underlying 87 = some (.struct (P.fieldsOf 87)) := by kernel_rfl
theorem und85 : P.underlying 85 = some (.slice 87) := by kernel_rfl
theorem und25p : P.underlying 25 = some (.array 64 5) := by kernel_rfl
theorem readable87 : P.readableRec 87 = true ∧ 87 < P.types.size := ⟨by kernel_rfl, of_decide_eq_true (by kernel_rfl)⟩
theorem readable85 : P.readableRec 85 = true ∧ 85 < P.types.size := ⟨by kernel_rfl, of_decide_eq_true (by kernel_rfl)⟩
theorem readable98 : P.readableRec 98 = true ∧ 98 < P.types.size := ⟨by kernel_rfl, of_decide_eq_true (by kernel_rfl)⟩
theorem readable104 : P.readableRec 104 = true ∧ 104 < P.types.size := ⟨by kernel_rfl, of_decide_eq_true (by kernel_rfl)⟩
theorem fields87 : fieldsB P 87 [(3, 0), (3, 1), (3, 2), (3, 3), (3, 4), (3, 5)] = true := by kernel_rfl
def rngPin (p : PinP) : Prop := ∀ n ∈ pinNs p, -9223372036854775808 ≤ n ∧ n < 9223372036854775808
theorem open_u8 {n : Int} (h : (Lit.int .u8 n).wf = true) : ∃ f : UInt8, Value.int .u8 n = bv f := by
  have hfb := wf_u8 h
  refine ⟨UInt8.ofNat n.toNat, ?_⟩
  simp only [bv, Value.int.injEq, true_and]
  have : (UInt8.ofNat n.toNat).toNat = n.toNat := by simp; omega
  rw [this]; omega
variable {H : Type} {enc : TypeId × Value → H}
set_option maxRecDepth 100000 in
theorem open_pin1 {W : World} {fuel : Nat} {cs : List Value} {x : DataW H × List MemPlace} (h : DataW.trod enc P W 0 (fun _ => true) true fuel 87 cs = some x) : ∃ q : PinP, cs = pinL q ∧ rngPin q := by
  obtain ⟨hl, hfs⟩ := open_fields fields87 h
  rw [cellsOf87] at hl
  match cs, hl with
  | [c0, c1, c2, c3, c4, c5], _ =>
    obtain ⟨n0, y0, h0⟩ := hfs (3, 0) (by simp)
    obtain ⟨n1, y1, h1⟩ := hfs (3, 1) (by simp)
    obtain ⟨n2, y2, h2⟩ := hfs (3, 2) (by simp)
    obtain ⟨n3, y3, h3⟩ := hfs (3, 3) (by simp)
    obtain ⟨n4, y4, h4⟩ := hfs (3, 4) (by simp)
    obtain ⟨n5, y5, h5⟩ := hfs (3, 5) (by simp)
    simp only [cellsOf3, List.drop_zero, List.drop_succ_cons, List.take_succ_cons, List.take_zero] at h0 h1 h2 h3 h4 h5
    obtain ⟨k0, rfl, hk0⟩ := open_int1 und3 h0
    obtain ⟨k1, rfl, hk1⟩ := open_int1 und3 h1
    obtain ⟨k2, rfl, hk2⟩ := open_int1 und3 h2
    obtain ⟨k3, rfl, hk3⟩ := open_int1 und3 h3
    obtain ⟨k4, rfl, hk4⟩ := open_int1 und3 h4
    obtain ⟨k5, rfl, hk5⟩ := open_int1 und3 h5
    refine ⟨⟨k0, k1, k2, k3, k4, k5⟩, rfl, fun n hn => ?_⟩
    simp only [pinNs, List.mem_cons, List.not_mem_nil, or_false] at hn
    rcases hn with rfl | rfl | rfl | rfl | rfl | rfl
    · exact wf_i64 hk0
    · exact wf_i64 hk1
    · exact wf_i64 hk2
    · exact wf_i64 hk3
    · exact wf_i64 hk4
    · exact wf_i64 hk5
set_option maxRecDepth 100000 in
theorem open_pin87 {W : World} {r : Reach} {b0 : Nat} {v : Value} {d : DataW H} {p : List MemPlace} (hval : Value.okWide P W r b0 87 v) (h : DataW.Trod enc P W 0 (fun _ => true) true 87 v d p) : ∃ q : PinP, v = pinV q ∧ rngPin q := by
  obtain ⟨cs, rfl, _⟩ := okWide_struct und87 hval
  obtain ⟨fuel, hf⟩ := h
  obtain ⟨q, hq, hr⟩ := open_pin1 (show DataW.trod enc P W 0 (fun _ => true) true fuel 87 cs.toList = _ from hf)
  refine ⟨q, ?_, hr⟩
  show Value.agg cs = Value.agg (pinL q).toArray
  rw [← hq]
set_option maxRecDepth 100000 in
theorem open_pins85 {W : World} {r : Reach} {b0 : Nat} {v : Value} {d : DataW H} {p : List MemPlace} (hval : Value.okWide P W r b0 85 v) (h : DataW.Trod enc P W 0 (fun _ => true) true 85 v d p) : ∃ L, RdV W v L.length (flat pinL L) ∧ ∀ q ∈ L, rngPin q := by
  obtain ⟨fuel, hf⟩ := h
  exact open_rows (fc := pinL) (Ok := rngPin) zPin und85 cellsOf87 (by omega) (fun q => rfl) (okWide_slice und85 hval) (fun h => open_pin1 h) hf
set_option maxRecDepth 100000 in
theorem open_psec1 {W : World} {fuel : Nat} {cs : List Value} {x : DataW H × List MemPlace} (h : DataW.trod enc P W 0 (fun _ => true) true fuel 25 cs = some x) : ∃ s : List UInt8, cs = bs s ∧ s.length = 64 := by
  cases fuel with
  | zero => simp [DataW.trod] at h
  | succ fuel =>
    unfold DataW.trod at h
    simp only [und25p] at h
    split at h
    · rename_i hlen
      rw [cellsOf25] at hlen
      simp only [Option.map_eq_some_iff] at h
      obtain ⟨xs, hxs, _⟩ := h
      obtain ⟨zs, hz, hw⟩ := trod_cells_int und5 cellsOf5 hlen hxs
      obtain ⟨l, hl, hll⟩ := bytes_of hw
      have h64 : l.length = 64 := by
        have := congrArg List.length hz
        rw [hlen, List.length_map] at this
        omega
      exact ⟨l, hz.trans hl, h64⟩
    · simp at h
set_option maxRecDepth 100000 in
theorem open_two98 {W : World} {r : Reach} {b0 : Nat} {v : Value} {d : DataW H} {p : List MemPlace} (hval : Value.okWide P W r b0 98 v) (h : DataW.Trod enc P W 0 (fun _ => true) true 98 v d p) :
    ∃ q : List UInt8 × List UInt8, v = .agg (bs q.1 ++ bs q.2).toArray ∧ q.1.length = 64 ∧ q.2.length = 64 := by
  simp only [Value.okWide, und98] at hval
  obtain ⟨cs, rfl, hs, _⟩ := hval
  obtain ⟨fuel, hf⟩ := h
  cases fuel with
  | zero => simp [DataW.trod] at hf
  | succ fuel =>
    have hsz : cs.toList.length = P.cellsOf 98 := by simpa using hs
    unfold DataW.trod at hf
    simp only [und98, Value.cells, hsz, if_true, Option.map_eq_some_iff] at hf
    obtain ⟨xs, hxs, _⟩ := hf
    obtain ⟨y0, h0⟩ := mapM_each hxs 0 (by simp)
    obtain ⟨y1, h1⟩ := mapM_each hxs 1 (by simp)
    rw [cellsOf98] at hsz
    rw [cellsOf25] at h0 h1
    obtain ⟨a, ha, hal⟩ := open_psec1 h0
    obtain ⟨b, hb, hbl⟩ := open_psec1 h1
    refine ⟨(a, b), ?_, hal, hbl⟩
    show Value.agg cs = Value.agg (bs a ++ bs b).toArray
    rw [← ha, ← hb]
    have : cs.toList = (cs.toList.drop (0 * 64)).take 64 ++ (cs.toList.drop (1 * 64)).take 64 := by
      rw [Nat.zero_mul, Nat.one_mul, List.drop_zero]
      conv => lhs; rw [← List.take_append_drop 64 cs.toList]
      congr 1
      rw [List.take_of_length_le (by rw [List.length_drop, hsz]; omega)]
    rw [← this]
set_option maxRecDepth 100000 in
theorem open_two104 {W : World} {r : Reach} {b0 : Nat} {v : Value} {d : DataW H} {p : List MemPlace} (hval : Value.okWide P W r b0 104 v) (h : DataW.Trod enc P W 0 (fun _ => true) true 104 v d p) :
    ∃ q : PinP × PinP, v = .agg (pinL q.1 ++ pinL q.2).toArray ∧ rngPin q.1 ∧ rngPin q.2 := by
  simp only [Value.okWide, und104] at hval
  obtain ⟨cs, rfl, hs, _⟩ := hval
  obtain ⟨fuel, hf⟩ := h
  cases fuel with
  | zero => simp [DataW.trod] at hf
  | succ fuel =>
    have hsz : cs.toList.length = P.cellsOf 104 := by simpa using hs
    unfold DataW.trod at hf
    simp only [und104, Value.cells, hsz, if_true, Option.map_eq_some_iff] at hf
    obtain ⟨xs, hxs, _⟩ := hf
    obtain ⟨y0, h0⟩ := mapM_each hxs 0 (by simp)
    obtain ⟨y1, h1⟩ := mapM_each hxs 1 (by simp)
    rw [cellsOf104] at hsz
    rw [cellsOf87] at h0 h1
    obtain ⟨a, ha, hal⟩ := open_pin1 h0
    obtain ⟨b, hb, hbl⟩ := open_pin1 h1
    refine ⟨(a, b), ?_, hal, hbl⟩
    show Value.agg cs = Value.agg (pinL a ++ pinL b).toArray
    rw [← ha, ← hb]
    have : cs.toList = (cs.toList.drop (0 * 6)).take 6 ++ (cs.toList.drop (1 * 6)).take 6 := by
      rw [Nat.zero_mul, Nat.one_mul, List.drop_zero]
      conv => lhs; rw [← List.take_append_drop 6 cs.toList]
      congr 1
      rw [List.take_of_length_le (by rw [List.length_drop, hsz]; omega)]
    rw [← this]
end Go.Proofs.Yticncfkpfpkfoaa
