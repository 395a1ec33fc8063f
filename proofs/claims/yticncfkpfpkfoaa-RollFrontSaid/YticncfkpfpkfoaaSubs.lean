/- Parts of slices. -/
import Derived.Test.YticncfkpfpkfoaaPrims4
import Derived.Test.YticncfkpfpkfoaaTypes
set_option linter.unusedVariables false
set_option linter.unusedSimpArgs false
namespace Go.Proofs.Yticncfkpfpkfoaa
open Go

theorem RdV.len {w : World} {v : Value} {n : Nat} {cs : List Value} (h : RdV w v n cs) : n ≤ 9223372036854775807 := by
  have e : maxLen = 9223372036854775807 := rfl
  rcases h with ⟨_, _, _, h0, _⟩ | ⟨_, _, _, _, h1, h2, _⟩ <;> omega
theorem rd_sub {w : World} {ab ao N ac : Nat} {B : List UInt8} (h : RdV w (sl ab ao N ac) N (bs B)) (hN : B.length = N) {lo hi : Nat} (h1 : lo ≤ hi) (h2 : hi ≤ N) :
    RdV w (.slice (some ⟨ab, if ac = lo then ao else ao + lo * 1, none⟩) (hi - lo) (ac - lo)) ((B.drop lo).take (hi - lo)).length (bs ((B.drop lo).take (hi - lo))) := by
  have hl : ((B.drop lo).take (hi - lo)).length = hi - lo := by simp; omega
  rw [hl]
  rcases h with ⟨a, c, hv, h0, _⟩ | ⟨b, o, c, hv, hc1, hc2, hlt, hin, hcs⟩
  · have : hi - lo = 0 := by omega
    rw [this]
    exact .inl ⟨_, _, rfl, rfl, by simp [bs]⟩
  · simp only [Value.slice.injEq, Option.some.injEq, Addr.mk.injEq] at hv
    obtain ⟨⟨rfl, rfl, _⟩, _, rfl⟩ := hv
    by_cases h0 : hi - lo = 0
    · rw [h0]
      exact .inl ⟨_, _, rfl, rfl, by simp [bs]⟩
    · have hne : ¬ ac = lo := by omega
      rw [if_neg hne, Nat.mul_one]
      rw [bs_length] at hin hcs
      refine .inr ⟨ab, ao + lo, ac - lo, rfl, by omega, by omega, hlt, by rw [bs_length, hl]; omega, ?_⟩
      rw [bs_length, hl, ← bs_take, ← bs_drop, ← hcs, List.drop_take, List.take_take, List.drop_drop]
      congr 1
      omega

theorem pSlice_any {t e : TypeId} {a : Option Addr} {n c : Nat} {lo hi : Option Value} (hs : sliceE P t = some e) (he : tyOk P e = true) (hlo : isB lo = true) (hhi : isB hi = true)
    (h0 : 0 ≤ bLo lo) (h1 : bLo lo ≤ bHi n hi) (h2 : bHi n hi ≤ c) (hnc : n ≤ c) (w : World) :
    pSlice P t (.slice a n c) lo hi none w = some (.slice (if c = (bLo lo).toNat then a else a.map (·.add ((bLo lo).toNat * P.cellsOf e))) ((bHi n hi).toNat - (bLo lo).toNat) (c - (bLo lo).toNat), w) := by
  have hu := sliceE_und hs
  simp only [pSlice, runV, Instr.sliceAt, Sem.run_bind, run_underlying hu, Result.andThen_ok, Instr.slice, run_bounds hlo hhi h0 h1 h2 hnc, run_size he, Sem.run_pure]

theorem sl_mid {t : TypeId} {w : World} {v : Value} {B : List UInt8} {lo hi : Nat} (hs : sliceE P t = some 5) (h : RdV w v B.length (bs B)) (h1 : lo ≤ hi) (h2 : hi ≤ B.length) :
    ∃ S, (∀ w', pSlice P t v (some (i64 lo)) (some (i64 hi)) none w' = some (S, w')) ∧ RdV w S ((B.drop lo).take (hi - lo)).length (bs ((B.drop lo).take (hi - lo))) ∧ S.oneCell' = true := by
  rcases id h with ⟨a, c, rfl, h0, _⟩ | ⟨ab, ao, ac, rfl, hac, _⟩
  · have hl0 : lo = 0 := by omega
    have hh0 : hi = 0 := by omega
    subst hl0; subst hh0
    refine ⟨_, fun w' => pSlice_any (w := w') (a := a) (n := 0) (c := c) (lo := some (i64 (0 : Nat))) (hi := some (i64 (0 : Nat))) hs tyOk5 rfl rfl (by simp [bLo]) (by simp [bLo, bHi]) (by simp [bHi]) (by omega), ?_, rfl⟩
    exact .inl ⟨_, _, rfl, by simp, by simp [bs]⟩
  · have hsub := rd_sub h rfl h1 h2
    refine ⟨_, fun w' => ?_, hsub, rfl⟩
    rw [pSlice_any (w := w') (n := B.length) (c := ac) (lo := some (i64 lo)) (hi := some (i64 hi)) hs tyOk5 rfl rfl (by simp [bLo]) (by simp [bLo, bHi]; omega) (by simp [bHi]; omega) hac]
    have ea : (if ac = (bLo (some (i64 (lo : Int)))).toNat then (some ⟨ab, ao, none⟩ : Option Addr) else (some (⟨ab, ao, none⟩ : Addr)).map (·.add ((bLo (some (i64 (lo : Int)))).toNat * P.cellsOf 5))) = some ⟨ab, if ac = lo then ao else ao + lo * 1, none⟩ := by
      rw [cellsOf5]
      simp only [bLo, Int.toNat_natCast, Option.map_some]
      by_cases hac2 : ac = lo
      · simp [hac2]
      · by_cases hl0 : lo = 0
        · subst hl0; simp [Addr.add]
        · simp [Addr.add, hac2, hl0]
    rw [ea]
    simp only [bLo, bHi, Int.toNat_natCast]
theorem sl_from {t : TypeId} {w : World} {v : Value} {B : List UInt8} {lo : Nat} (hs : sliceE P t = some 5) (h : RdV w v B.length (bs B)) (h1 : lo ≤ B.length) :
    ∃ S, (∀ w', pSlice P t v (some (i64 lo)) none none w' = some (S, w')) ∧ RdV w S (B.drop lo).length (bs (B.drop lo)) ∧ S.oneCell' = true := by
  rcases id h with ⟨a, c, rfl, h0, _⟩ | ⟨ab, ao, ac, rfl, hac, _⟩
  · have hl0 : lo = 0 := by omega
    subst hl0
    have hB : B = [] := List.eq_nil_of_length_eq_zero h0
    subst hB
    refine ⟨_, fun w' => pSlice_any (w := w') (a := a) (n := 0) (c := c) (lo := some (i64 (0 : Nat))) (hi := none) hs tyOk5 rfl rfl (by simp [bLo]) (by simp [bLo, bHi]) (by simp [bHi]) (by omega), ?_, rfl⟩
    exact .inl ⟨_, _, rfl, by simp, by simp [bs]⟩
  · have hsub := rd_sub h rfl (lo := lo) (hi := B.length) h1 (Nat.le_refl _)
    have e1 : (B.drop lo).take (B.length - lo) = B.drop lo := List.take_of_length_le (by simp)
    rw [e1] at hsub
    refine ⟨_, fun w' => ?_, hsub, rfl⟩
    rw [pSlice_any (w := w') (n := B.length) (c := ac) (lo := some (i64 lo)) (hi := none) hs tyOk5 rfl rfl (by simp [bLo]) (by simp [bLo, bHi]; omega) (by simp [bHi]; omega) hac]
    have ea : (if ac = (bLo (some (i64 (lo : Int)))).toNat then (some ⟨ab, ao, none⟩ : Option Addr) else (some (⟨ab, ao, none⟩ : Addr)).map (·.add ((bLo (some (i64 (lo : Int)))).toNat * P.cellsOf 5))) = some ⟨ab, if ac = lo then ao else ao + lo * 1, none⟩ := by
      rw [cellsOf5]
      simp only [bLo, Int.toNat_natCast, Option.map_some]
      by_cases hac2 : ac = lo
      · simp [hac2]
      · by_cases hl0 : lo = 0
        · subst hl0; simp [Addr.add]
        · simp [Addr.add, hac2, hl0]
    rw [ea]
    simp only [bLo, bHi, Int.toNat_natCast]
theorem rd_cell {w : World} {v : Value} {B : List UInt8} (h : RdV w v B.length (bs B)) {i : Nat} (hi : i < B.length) : ∃ ab ao ac, v = sl ab ao B.length ac ∧ ao + i < (mm w ab).length ∧ gt (mm w ab) (ao + i) = bv (gb B i) := by
  rcases id h with ⟨_, _, _, h0, _⟩ | ⟨ab, ao, ac, rfl, _⟩
  · omega
  · obtain ⟨h1, h2⟩ := h.cell (j := i) (by simpa using hi)
    exact ⟨ab, ao, ac, rfl, h1, h2.trans (gt_bs hi)⟩
theorem own_nw {w : World} {base e size : Nat} {l : List Value} {n : Nat} (hb : base ≤ sz w) (hl : l.length = n * size) (hn : n ≤ maxLen) : (nw w l e).ownsRow base e size (sl (sz w) 0 n n) n l := by
  refine ⟨hl, .inr ⟨sz w, n, l.toArray, rfl, hb, ?_, Nat.le_refl _, hn, by simpa using hl, by simp [← hl]⟩⟩
  unfold nw sz
  simp
end Go.Proofs.Yticncfkpfpkfoaa
