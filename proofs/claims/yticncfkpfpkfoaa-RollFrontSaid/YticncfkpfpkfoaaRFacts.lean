/- Facts on the program that the rows of Roll ask for; rows of entries and areas that came in, opened. -/
import Derived.Test.YticncfkpfpkfoaaFacts
import Derived.Test.YticncfkpfpkfoaaOpen
import Derived.Test.YticncfkpfpkfoaaRollG
set_option linter.unusedVariables false
set_option linter.unusedSimpArgs false
namespace Go.Proofs.Yticncfkpfpkfoaa
open Go Go.ChangeShapes Go.WideShapes

theorem und65 : P.underlying 65 = some (.struct (P.fieldsOf 65)) := by kernel_rfl
theorem und67 : P.underlying 67 = some (.slice 22) := by kernel_rfl
theorem und76 : P.underlying 76 = some (.slice 25) := by kernel_rfl
theorem readable65 : P.readableRec 65 = true ∧ 65 < P.types.size := ⟨by kernel_rfl, of_decide_eq_true (by kernel_rfl)⟩
theorem readable67 : P.readableRec 67 = true ∧ 67 < P.types.size := ⟨by kernel_rfl, of_decide_eq_true (by kernel_rfl)⟩
theorem readable76 : P.readableRec 76 = true ∧ 76 < P.types.size := ⟨by kernel_rfl, of_decide_eq_true (by kernel_rfl)⟩
theorem open_u8 {n : Int} (h : (Lit.int .u8 n).wf = true) : ∃ f : UInt8, Value.int .u8 n = bv f := by
  have hfb := wf_u8 h
  refine ⟨UInt8.ofNat n.toNat, ?_⟩
  simp only [bv, Value.int.injEq, true_and]
  have : (UInt8.ofNat n.toNat).toNat = n.toNat := by simp; omega
  rw [this]; omega
variable {H : Type} {enc : TypeId × Value → H}
set_option maxRecDepth 100000 in
theorem open_ents67 {W : World} {r : Reach} {b0 : Nat} {v : Value} {d : DataW H} {p : List MemPlace} (hval : Value.okWide P W r b0 67 v) (h : DataW.Trod enc P W 0 (fun _ => true) true 67 v d p) : ∃ Lp, IsE W v Lp := by
  obtain ⟨fuel, hf⟩ := h
  have key : ∀ {fuel : Nat} {cs : List Value} {x : DataW H × List MemPlace}, DataW.trod enc P W 0 (fun _ => true) true fuel 22 cs = some x → ∃ q : List UInt8 × Value, cs = [q.2] ∧ RdV W q.2 q.1.length (bs q.1) := by
    intro fuel cs x h
    have hl : ∃ v, cs = [v] := by
      cases fuel with
      | zero => simp [DataW.trod] at h
      | succ fuel =>
        unfold DataW.trod at h
        simp only [und22] at h
        split at h <;> first | exact ⟨_, rfl⟩ | simp_all
    obtain ⟨v, rfl⟩ := hl
    obtain ⟨zs, hz, hw⟩ := open_slice_ints und22 und5 cellsOf5 cellsOf22 h
    refine ⟨(zs.map fun z => UInt8.ofNat z.toNat, v), rfl, ?_⟩
    have e : bs (zs.map fun z => UInt8.ofNat z.toNat) = zs.map (Value.int .u8) := by
      unfold bs
      rw [List.map_map]
      apply List.map_congr_left
      intro z hz
      have := wf_u8 (hw z hz)
      simp only [Function.comp_apply, bv, Value.int.injEq, true_and]
      have h2 : (UInt8.ofNat z.toNat).toNat = z.toNat := by simp; omega
      rw [h2]; omega
    simp only [List.length_map]
    rw [e]
    exact hz
  obtain ⟨L, hL, hok⟩ := open_rows (fc := fun q : List UInt8 × Value => [q.2]) (Ok := fun q => RdV W q.2 q.1.length (bs q.1)) ([], .bool false) und67 cellsOf22 (by omega) (fun _ => rfl) (okWide_slice und67 hval) key hf
  refine ⟨L, ⟨?_, hok⟩⟩
  have : ∀ L : List (List UInt8 × Value), flat (fun q : List UInt8 × Value => [q.2]) L = L.map (·.2) := by
    intro L
    induction L with
    | nil => rfl
    | cons a L ih => simpa [flat] using ih
  rw [this] at hL
  exact hL
end Go.Proofs.Yticncfkpfpkfoaa
