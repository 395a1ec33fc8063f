/- RollScans: the sectors of an area. -/
import Derived.Test.YticncfkpfpkfoaaRScans1
import Derived.Test.YticncfkpfpkfoaaRollQ
set_option linter.unusedVariables false
set_option linter.unusedSimpArgs false
namespace Go.Proofs.Yticncfkpfpkfoaa
open Go

theorem sl_mid76 {w : World} {v : Value} {S : List (List UInt8)} {lo hi : Nat} (h : RdV w v S.length (flat bs S)) (hS : ∀ s ∈ S, s.length = 64) (h1 : lo < hi) (h2 : hi ≤ S.length) :
    ∃ T, (∀ w', pSlice P 76 v (some (i64 lo)) (some (i64 hi)) none w' = some (T, w')) ∧ RdV w T ((S.drop lo).take (hi - lo)).length (flat bs ((S.drop lo).take (hi - lo))) := by
  rcases id h with ⟨a, c, rfl, h0, _⟩ | ⟨ab, ao, ac, rfl, hac, hmx, hlt, hin, hcs⟩
  · omega
  · refine ⟨_, fun w' => pSlice_any (w := w') (a := some ⟨ab, ao, none⟩) (n := S.length) (c := ac) (lo := some (i64 lo)) (hi := some (i64 hi)) sliceE76 tyOk25 rfl rfl (by simp [bLo]) (by simp [bLo, bHi]; omega) (by simp [bHi]; omega) hac, ?_⟩
    simp only [bLo, bHi, Int.toNat_natCast, cellsOf25, Option.map_some]
    rw [if_neg (by omega)]
    have hfl : (flat bs S).length = S.length * 64 := flat_length (n := 64) (fun s hs => by rw [bs_length]; exact hS s hs)
    have hl2 : ((S.drop lo).take (hi - lo)).length = hi - lo := by simp; omega
    have hfl2 : (flat bs ((S.drop lo).take (hi - lo))).length = (hi - lo) * 64 := by rw [flat_length (n := 64) (fun s hs => by rw [bs_length]; exact hS s (List.mem_of_mem_drop (List.mem_of_mem_take hs))), hl2]
    have ha : (⟨ab, ao, none⟩ : Addr).add (lo * 64) = ⟨ab, ao + lo * 64, none⟩ := by
      by_cases hk0 : lo = 0
      · subst hk0; simp [Addr.add]
      · simp [Addr.add]
        omega
    have hsp : flat bs (S.drop lo) = flat bs ((S.drop lo).take (hi - lo)) ++ flat bs ((S.drop lo).drop (hi - lo)) := by rw [← flat_append, List.take_append_drop]
    have hd := flat_drop hS lo
    rw [ha, hl2]
    refine .inr ⟨ab, ao + lo * 64, ac - lo, rfl, by omega, by omega, hlt, by rw [hfl2]; rw [hfl] at hin; omega, ?_⟩
    rw [hfl2]
    have e1 : ((mm w ab).drop (ao + lo * 64)).take ((hi - lo) * 64) = ((flat bs S).drop (lo * 64)).take ((hi - lo) * 64) := by
      rw [← hcs, hfl, List.drop_take, List.drop_drop, List.take_take, Nat.min_eq_left (by omega)]
    rw [e1, hd, hsp, List.take_left' hfl2]
/-- The area of a disk that holds these sectors. -/
theorem area_of {S : List (List UInt8)} {D : DD} {fr ln : Nat} (hfit : fr + ln ≤ S.length) (hv : ∀ i, i < S.length → view D i = S.getD i []) : areaS D fr ln = (S.drop fr).take (fr + ln - fr) := by
  apply List.ext_getElem?
  intro i
  unfold areaS
  rw [List.getElem?_map, List.getElem?_take, List.getElem?_drop]
  by_cases hi : i < ln
  · rw [List.getElem?_range hi, if_pos (by omega), Option.map_some]
    have := hv (fr + i) (by omega)
    unfold view at this
    rw [this, List.getD_eq_getElem?_getD, List.getElem?_eq_getElem (by omega)]
    rfl
  · rw [if_neg (by omega), List.getElem?_eq_none (by rw [List.length_range]; omega)]
    rfl
end Go.Proofs.Yticncfkpfpkfoaa
