/- What the code finds is what the document finds: a plain law. -/
import Derived.Test.YticncfkpfpkfoaaRollP
set_option linter.unusedVariables false
set_option linter.unusedSimpArgs false
namespace Go.Proofs.Yticncfkpfpkfoaa
open Go

theorem ext_gb {s t : List UInt8} (hl : s.length = t.length) (h : ∀ i, i < s.length → gb s i = gb t i) : s = t := by
  apply List.ext_getElem hl
  intro i h1 h2
  have := h i h1
  simpa [gb, h1, h2] using this
theorem whole_eq {s : List UInt8} (hs : s.length = 64) (h : isWhole s) : s = sealOf (pay s) := by
  obtain ⟨h0, h63, hn, hz⟩ := h
  have hp := pay_length hs hn
  have hp61 : (pay s).length ≤ 61 := by omega
  refine ext_gb (by rw [hs, sealOf_length hp61]) (fun i hi => ?_)
  rw [gb_sealOf hp61, hp]
  by_cases i0 : i = 0
  · subst i0; simp [h0]
  by_cases i1 : i = 1
  · subst i1; simp
  by_cases i2 : i < 2 + (gb s 1).toNat
  · have e : gb (pay s) (i - 2) = gb s i := by
      unfold pay
      generalize (gb s 1).toNat = n at *
      unfold gb
      rw [List.getD_eq_getElem?_getD, List.getD_eq_getElem?_getD, List.getElem?_take, if_pos (by omega), List.getElem?_drop, show 2 + (i - 2) = i by omega]
    simp [i0, i1, i2, e]
  by_cases i3 : i = 63
  · subst i3; simp [i2, h63]
  · have := hz i (by omega) (by omega)
    simp [i0, i1, i2, i3, this]
theorem pay_cons {s : List UInt8} (h : 1 ≤ (pay s).length) : pay s = UInt8.ofNat (leftOf s) :: (pay s).drop 1 := by
  unfold leftOf
  cases hp : pay s with
  | nil => rw [hp] at h; simp at h
  | cons c r => simp [gb]
theorem one_conv : ∀ (S : List (List UInt8)) (i first : Nat) (out b : List UInt8) (k : Nat), (∀ s ∈ S, s.length = 64) → out.length = 60 * i → (0 < i → i ≤ first ∧ first ≤ 63) → oneGo S i first out = some (b, k) →
    k = need b.length ∧ b.length ≤ 3840 ∧ b.take (60 * i) = out ∧ S.take (k - i) = secsFrom b k (k - i) i ∧ i < k ∧ (0 < i → k = first + 1) := by
  intro S
  induction S with
  | nil => intro i first out b k _ _ _ h; simp [oneGo] at h
  | cons s r ih =>
    intro i first out b k hS ho hf h
    have hs := hS s List.mem_cons_self
    rw [oneGo] at h
    by_cases hw : isWhole s ∧ 1 ≤ (pay s).length
    · rw [if_pos hw] at h
      by_cases hb : badP i (firstOf i first s) s
      · rw [if_pos hb] at h; cases h
      · rw [if_neg hb] at h
        have hpc := pay_cons hw.2
        have hp61 : (pay s).length ≤ 61 := by rw [pay_length hs hw.1.2.2.1]; exact hw.1.2.2.1
        obtain ⟨part, hpart⟩ : ∃ part, part = (pay s).drop 1 := ⟨_, rfl⟩
        have hpl : part.length = (pay s).length - 1 := by rw [hpart]; simp
        rw [← hpart] at hpc h
        obtain ⟨lf, hlf⟩ : ∃ lf, lf = leftOf s := ⟨_, rfl⟩
        obtain ⟨f', hf'⟩ : ∃ f', f' = firstOf i first s := ⟨_, rfl⟩
        rw [← hf'] at hb h
        have hf2 : f' = if i = 0 then lf else first := by rw [hf', hlf]; rfl
        unfold badP at hb
        rw [← hlf] at hb h hpc
        have hse := whole_eq hs hw.1
        rw [hpc] at hse
        have hfi : f' = lf + i := by omega
        have hf63 : f' ≤ 63 := by
          by_cases h0 : i = 0
          · rw [if_pos h0] at hf2; omega
          · rw [if_neg h0] at hf2; have := (hf (by omega)).2; omega
        have hfirst : 0 < i → f' = first := fun h0 => by rw [if_neg (by omega)] at hf2; exact hf2
        by_cases hl0 : lf = 0
        · rw [if_pos hl0] at h
          simp only [Option.some.injEq, Prod.mk.injEq] at h
          obtain ⟨rfl, rfl⟩ := h
          have hbl : (out ++ part).length = 60 * i + part.length := by rw [List.length_append, ho]
          have hnd : i + 1 = need (out ++ part).length := by rw [hbl]; unfold need; omega
          refine ⟨hnd, by rw [hbl]; omega, by rw [← ho, List.take_left], ?_, by omega, fun h0 => by have := hfirst h0; omega⟩
          rw [show i + 1 - i = 1 by omega]
          simp only [List.take_succ_cons, List.take_zero, secsFrom]
          have hps : partS (out ++ part) (i + 1) i = UInt8.ofNat lf :: part := by
            unfold partS
            rw [← ho, List.drop_left, List.take_of_length_le (by omega)]
            congr 2
            omega
          rw [hps, ← hse]
        · rw [if_neg hl0] at h
          have hp60 : part.length = 60 := by omega
          obtain ⟨k1, k2, k3, k4, k5, k6⟩ := ih (i + 1) f' (out ++ part) b k (fun x hx => hS x (List.mem_cons_of_mem _ hx)) (by rw [List.length_append, ho, hp60]; omega) (fun _ => ⟨by omega, hf63⟩) h
          have k6' := k6 (by omega)
          have hk3 : b.take (60 * i + 60) = out ++ part := by rw [← k3]; congr 1
          have htk : b.take (60 * i) = out := by
            have := congrArg (List.take (60 * i)) hk3
            rw [List.take_take, Nat.min_eq_left (by omega), ← ho, List.take_left] at this
            rw [← ho]; exact this
          have hdr : (b.drop (60 * i)).take 60 = part := by
            have := congrArg (List.drop (60 * i)) hk3
            rw [List.drop_take, show 60 * i + 60 - 60 * i = 60 by omega] at this
            rw [this, ← ho, List.drop_left]
          refine ⟨k1, k2, htk, ?_, by omega, fun h0 => by have := hfirst h0; omega⟩
          rw [show k - i = (k - (i + 1)) + 1 by omega]
          simp only [List.take_succ_cons, secsFrom]
          rw [k4]
          congr 1
          have hps : partS b k i = UInt8.ofNat lf :: part := by
            unfold partS
            rw [hdr]
            congr 2
            omega
          rw [hps, ← hse]
    · rw [if_neg hw] at h; cases h
theorem oneM_conv {S : List (List UInt8)} {b : List UInt8} {k : Nat} (hS : ∀ s ∈ S, s.length = 64) (h : oneM S = some (b, k)) : k = need b.length ∧ b.length ≤ 3840 ∧ S = sectorsM b ++ S.drop k := by
  obtain ⟨h1, h2, _, h4, _, _⟩ := one_conv S 0 0 [] b k hS rfl (by omega) h
  refine ⟨h1, h2, ?_⟩
  rw [Nat.sub_zero] at h4
  have : sectorsM b = S.take k := by rw [h4, sectorsM_from, ← h1]
  rw [this, List.take_append_drop]

/-- The bytes of sectors' parts, one behind the other. -/
def catP (S : List (List UInt8)) : List UInt8 := (S.map fun s => (pay s).drop 1).flatten
theorem cat_secs (b : List UInt8) (n : Nat) : ∀ (k i : Nat), catP (secsFrom b n k i) = (b.drop (60 * i)).take (60 * k) := by
  intro k
  induction k with
  | zero => intro i; simp [catP, secsFrom]
  | succ k ih =>
    intro i
    have := ih (i + 1)
    unfold catP at this ⊢
    rw [secsFrom, List.map_cons, List.flatten_cons, this, pay_sec]
    have e : (partS b n i).drop 1 = (b.drop (60 * i)).take 60 := rfl
    rw [e, show 60 * (k + 1) = 60 + 60 * k by omega, List.take_add, List.drop_drop]
    congr 3
theorem cat_sectorsM (b : List UInt8) : catP (sectorsM b) = b := by
  rw [sectorsM_from, cat_secs]
  simp only [Nat.mul_zero, List.drop_zero]
  exact List.take_of_length_le (need_bounds b.length).1
/-- What an entry at the front says of the sectors there. -/
theorem one_says {S : List (List UInt8)} {b : List UInt8} {k : Nat} (hS : ∀ s ∈ S, s.length = 64) (h : oneM S = some (b, k)) :
    S.take k = sectorsM b ∧ k = need b.length ∧ b.length ≤ 3840 ∧ k ≤ S.length ∧ (∀ i s, i < k → S[i]? = some s → isWhole s ∧ 1 ≤ (pay s).length ∧ leftOf s = k - 1 - i) ∧ catP (S.take k) = b := by
  obtain ⟨h1, h2, h3⟩ := oneM_conv hS h
  have hk := (oneGo_pos S 0 0 [] b k h).2
  have ht : S.take k = sectorsM b := by
    rw [h3, List.take_left' (by rw [sectorsM_len, h1])]
  refine ⟨ht, h1, h2, by omega, fun i s hi hs => ?_, by rw [ht, cat_sectorsM]⟩
  have hs2 : (sectorsM b)[i]? = some s := by rw [← ht, List.getElem?_take, if_pos hi]; exact hs
  unfold sectorsM at hs2
  rw [List.getElem?_map, List.getElem?_range (by omega), ← h1] at hs2
  simp only [Option.map_some, Option.some.injEq] at hs2
  subst hs2
  have hn := need_le h2
  refine ⟨(whole_sealOf (partS_len b k i)).1, by rw [pay_sec]; simp [partS], leftOf_sec (by omega)⟩
end Go.Proofs.Yticncfkpfpkfoaa
