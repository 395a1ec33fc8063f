/- Sectors and areas that came in, opened; parts of rows of sectors. -/
import Derived.Test.YticncfkpfpkfoaaRFacts
import Derived.Test.YticncfkpfpkfoaaRollX
set_option linter.unusedVariables false
set_option linter.unusedSimpArgs false
namespace Go.Proofs.Yticncfkpfpkfoaa
open Go Go.ChangeShapes Go.WideShapes

variable {H : Type} {enc : TypeId × Value → H}
theorem und25s : P.underlying 25 = some (.array 64 5) := by kernel_rfl
set_option maxRecDepth 100000 in
theorem open_sec1 {W : World} {fuel : Nat} {cs : List Value} {x : DataW H × List MemPlace} (h : DataW.trod enc P W 0 (fun _ => true) true fuel 25 cs = some x) : ∃ q : {s : List UInt8 // s.length = 64}, cs = bs q.1 ∧ True := by
  cases fuel with
  | zero => simp [DataW.trod] at h
  | succ fuel =>
    unfold DataW.trod at h
    simp only [und25s] at h
    split at h
    · rename_i hlen
      rw [cellsOf25] at hlen
      simp only [Option.map_eq_some_iff] at h
      obtain ⟨xs, hxs, _⟩ := h
      obtain ⟨zs, hz, hw⟩ := trod_cells_int und5 cellsOf5 hlen hxs
      obtain ⟨l, hl, hll⟩ := bytes_of hw
      have h64 : l.length = 64 := by
        have := congrArg List.length hz
        rw [hlen, List.length_map] at this
        omega
      exact ⟨⟨l, h64⟩, hz.trans hl, trivial⟩
    · simp at h
set_option maxRecDepth 100000 in
theorem open_secs76 {W : World} {r : Reach} {b0 : Nat} {v : Value} {d : DataW H} {p : List MemPlace} (hval : Value.okWide P W r b0 76 v) (h : DataW.Trod enc P W 0 (fun _ => true) true 76 v d p) : ∃ S, RdV W v S.length (flat bs S) ∧ ∀ s ∈ S, s.length = 64 := by
  obtain ⟨fuel, hf⟩ := h
  obtain ⟨L, hL, _⟩ := open_rows (fc := fun q : {s : List UInt8 // s.length = 64} => bs q.1) (Ok := fun _ => True) ⟨zb 64, by simp⟩ und76 cellsOf25 (by omega) (fun q => by rw [bs_length]; exact q.2) (okWide_slice und76 hval) (fun h => open_sec1 h) hf
  refine ⟨L.map (·.1), ?_, fun s hs => ?_⟩
  · have e : ∀ L : List {s : List UInt8 // s.length = 64}, flat (fun q => bs q.1) L = flat bs (L.map (·.1)) := by
      intro L
      simp [flat, List.map_map, Function.comp_def]
    rw [List.length_map, ← e]
    exact hL
  · obtain ⟨q, _, rfl⟩ := List.mem_map.1 hs
    exact q.2
theorem fields65 : fieldsB P 65 [(3, 0), (3, 1)] = true := by kernel_rfl
set_option maxRecDepth 100000 in
theorem open_area65 {W : World} {r : Reach} {b0 : Nat} {v : Value} {d : DataW H} {p : List MemPlace} (hval : Value.okWide P W r b0 65 v) (h : DataW.Trod enc P W 0 (fun _ => true) true 65 v d p) :
    ∃ q : Int × Int, v = ar q.1 q.2 ∧ (-9223372036854775808 ≤ q.1 ∧ q.1 < 9223372036854775808) ∧ (-9223372036854775808 ≤ q.2 ∧ q.2 < 9223372036854775808) := by
  obtain ⟨cs, rfl, _⟩ := okWide_struct und65 hval
  obtain ⟨fuel, hf⟩ := h
  obtain ⟨hl, hfs⟩ := open_fields fields65 (show DataW.trod enc P W 0 (fun _ => true) true fuel 65 cs.toList = _ from hf)
  rw [cellsOf65] at hl
  obtain ⟨l⟩ := cs
  match l, hl with
  | [c0, c1], _ =>
    obtain ⟨n0, y0, h0⟩ := hfs (3, 0) (by simp)
    obtain ⟨n1, y1, h1⟩ := hfs (3, 1) (by simp)
    simp only [cellsOf3, List.drop_zero, List.drop_succ_cons, List.take_succ_cons, List.take_zero] at h0 h1
    obtain ⟨k0, rfl, hk0⟩ := open_int1 und3 h0
    obtain ⟨k1, rfl, hk1⟩ := open_int1 und3 h1
    exact ⟨(k0, k1), rfl, wf_i64 hk0, wf_i64 hk1⟩
end Go.Proofs.Yticncfkpfpkfoaa
