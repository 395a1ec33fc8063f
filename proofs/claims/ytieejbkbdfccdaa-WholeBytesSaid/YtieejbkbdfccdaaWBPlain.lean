/- WholeBytes: the plain laws: texts in order are numbers in order. -/
import Derived.Test.YtieejbkbdfccdaaPackP
import Derived.Test.YtieejbkbdfccdaaFloWalk
set_option linter.unusedVariables false
set_option linter.unusedSimpArgs false
namespace Go.Proofs.Ytieejbkbdfccdaa
open Go

theorem bytesLess_cons (x y : UInt8) (a b : List UInt8) : Op.bytesLess (x :: a) (y :: b) = (decide (x.toNat < y.toNat) || (decide (x.toNat = y.toNat) && Op.bytesLess a b)) := by
  rw [Op.bytesLess]
  by_cases h1 : x.toNat < y.toNat
  · have : x < y := h1
    simp [h1, this]
  · have h1' : ¬ x < y := h1
    by_cases h2 : x.toNat = y.toNat
    · have : x = y := UInt8.toNat_inj.1 h2
      subst this
      simp
    · have h2' : ¬ x = y := fun h => h2 (by rw [h])
      simp [h1, h1', h2, h2']
theorem ofNat_mod (n : Nat) : (UInt8.ofNat n).toNat = n % 256 := by rw [UInt8.toNat_ofNat']
theorem lex_step {a b c d k m : Nat} (h : k < m ↔ a < b ∨ (a = b ∧ c < d)) : decide (k < m) = (decide (a < b) || (decide (a = b) && decide (c < d))) := by
  rw [Bool.eq_iff_iff]
  simpa using h
theorem place_less {k m : Nat} (hk : k < 18446744073709551616) (hm : m < 18446744073709551616) : Op.bytesLess (placeB k) (placeB m) = decide (k < m) := by
  have e7 := lex_step (a := k / 72057594037927936 % 256) (b := m / 72057594037927936 % 256) (c := k % 72057594037927936) (d := m % 72057594037927936) (k := k) (m := m) (by omega)
  have e6 := lex_step (a := k / 281474976710656 % 256) (b := m / 281474976710656 % 256) (c := k % 281474976710656) (d := m % 281474976710656) (k := k % 72057594037927936) (m := m % 72057594037927936) (by omega)
  have e5 := lex_step (a := k / 1099511627776 % 256) (b := m / 1099511627776 % 256) (c := k % 1099511627776) (d := m % 1099511627776) (k := k % 281474976710656) (m := m % 281474976710656) (by omega)
  have e4 := lex_step (a := k / 4294967296 % 256) (b := m / 4294967296 % 256) (c := k % 4294967296) (d := m % 4294967296) (k := k % 1099511627776) (m := m % 1099511627776) (by omega)
  have e3 := lex_step (a := k / 16777216 % 256) (b := m / 16777216 % 256) (c := k % 16777216) (d := m % 16777216) (k := k % 4294967296) (m := m % 4294967296) (by omega)
  have e2 := lex_step (a := k / 65536 % 256) (b := m / 65536 % 256) (c := k % 65536) (d := m % 65536) (k := k % 16777216) (m := m % 16777216) (by omega)
  have e1 := lex_step (a := k / 256 % 256) (b := m / 256 % 256) (c := k % 256) (d := m % 256) (k := k % 65536) (m := m % 65536) (by omega)
  unfold placeB
  simp only [bytesLess_cons, ofNat_mod]
  have e : Op.bytesLess [] [] = false := rfl
  rw [e, e7, e6, e5, e4, e3, e2, e1]
  simp only [Bool.and_false, Bool.or_false]
theorem place_inj {k m : Nat} (hk : k < 18446744073709551616) (hm : m < 18446744073709551616) : (placeB k = placeB m) = (k = m) := by
  apply propext
  refine ⟨fun h => ?_, fun h => by rw [h]⟩
  have h1 := placeM_placeB [] hk
  have h2 := placeM_placeB [] hm
  rw [h] at h1
  rw [h1] at h2
  simpa using h2
def qf (a : Nat) : PartP := ⟨102, 0, 0, a, [], false⟩
theorem bd_qf {a : Nat} {w : World} : pBuild P 28 [(0, Value.int .u8 102), (3, fl a)] w = some (.agg (partC (qf a)).toArray, w) := by rw [bf28 (by simp)]; rfl
theorem bs_qf {a : Nat} {w : World} : pBuildSlice P 32 1 [(0, .agg (partC (qf a)).toArray)] w = some (sl (sz w) 0 1 1, nw w (flat partC [qf a]) 28) := by
  rw [bsl32 (by omega) (by simp [partC])]
  congr 3
theorem enc_qf (a : Nat) : encAll [qf a] = placeB (key a) := by simp [encAll, qf, encP]


theorem bytesLess_lt : ∀ a b : List UInt8, Op.bytesLess a b = decide (a < b)
  | [], [] => by simp [Op.bytesLess]
  | [], _ :: _ => by simp [Op.bytesLess]
  | _ :: _, [] => by simp [Op.bytesLess]
  | x :: a, y :: b => by
    rw [bytesLess_cons, bytesLess_lt a b, Bool.eq_iff_iff]
    simp [List.cons_lt_cons_iff, UInt8.lt_iff_toNat_lt, ← UInt8.toNat_inj]
theorem place_le {k m : Nat} (hk : k < 18446744073709551616) (hm : m < 18446744073709551616) : decide (placeB k ≤ placeB m) = decide (k ≤ m) := by
  have h := place_less hm hk
  rw [bytesLess_lt] at h
  have h2 : (placeB m < placeB k) ↔ m < k := by simpa using h
  rw [Bool.eq_iff_iff]
  simp only [decide_eq_true_eq]
  rw [← List.not_lt, h2]; omega
def keyed (L : List Nat) : List Nat := L.mergeSort fun a b => decide (key a ≤ key b)
theorem keyed_perm (L : List Nat) : (keyed L).Perm L := List.mergeSort_perm L _
theorem keyed_pair (L : List Nat) : (keyed L).Pairwise fun a b => key a ≤ key b := by
  have := List.pairwise_mergeSort (le := fun a b => decide (key a ≤ key b)) (by intro a b c; simp; omega) (by intro a b; simp; omega) L
  exact this.imp (by intro a b h; simpa using h)
theorem sorted_texts {L : List Nat} (h : ∀ a ∈ L, a < 2 * H63) : (L.map fun a => placeB (key a)).mergeSort (fun x y => decide (x ≤ y)) = (keyed L).map fun a => placeB (key a) := by
  unfold keyed
  rw [List.map_mergeSort]
  intro a ha b hb
  have h1 := key_lt (h a ha)
  have h2 := key_lt (h b hb)
  rw [H63x2] at h1 h2
  exact (place_le h1 h2).symm
/-- The least and the greatest of what came up. -/
def isLow (L : List Nat) (j : Nat) (a : Nat) : Prop := a < 2 * H63 ∧ (∃ b ∈ L, key b = key a) ∧ ∀ b ∈ L.take j, key a ≤ key b
def isHigh (L : List Nat) (j : Nat) (a : Nat) : Prop := a < 2 * H63 ∧ (∃ b ∈ L, key b = key a) ∧ ∀ b ∈ L.take j, key b ≤ key a
theorem isLow_zero {L : List Nat} {a : Nat} (h : a ∈ L) (ha : a < 2 * H63) : isLow L 0 a := ⟨ha, ⟨a, h, rfl⟩, by simp⟩
theorem isHigh_zero {L : List Nat} {a : Nat} (h : a ∈ L) (ha : a < 2 * H63) : isHigh L 0 a := ⟨ha, ⟨a, h, rfl⟩, by simp⟩
theorem canon_lt2 {a : Nat} (h : a < 2 * H63) : canon a < 2 * H63 := by
  unfold canon; split
  · unfold NAN H63; omega
  · exact h
theorem isLow_step {L : List Nat} {j a x : Nat} (h : isLow L j a) (hx : L[j]? = some x) (hl : x < 2 * H63) : isLow L (j + 1) (canon (if key x < key a then x else a)) := by
  obtain ⟨h1, ⟨b, hb, hk⟩, h2⟩ := h
  have hm : x ∈ L := List.mem_of_getElem? hx
  refine ⟨canon_lt2 (by split <;> assumption), ?_, ?_⟩
  · rw [key_canon]
    split
    · exact ⟨x, hm, rfl⟩
    · exact ⟨b, hb, hk⟩
  · rw [key_canon, List.take_add_one, hx]
    intro c hc
    rcases List.mem_append.1 hc with hc | hc
    · have := h2 c hc
      split <;> omega
    · simp at hc; subst hc
      split <;> omega
theorem isHigh_step {L : List Nat} {j a x : Nat} (h : isHigh L j a) (hx : L[j]? = some x) (hl : x < 2 * H63) : isHigh L (j + 1) (canon (if key a < key x then x else a)) := by
  obtain ⟨h1, ⟨b, hb, hk⟩, h2⟩ := h
  have hm : x ∈ L := List.mem_of_getElem? hx
  refine ⟨canon_lt2 (by split <;> assumption), ?_, ?_⟩
  · rw [key_canon]
    split
    · exact ⟨x, hm, rfl⟩
    · exact ⟨b, hb, hk⟩
  · rw [key_canon, List.take_add_one, hx]
    intro c hc
    rcases List.mem_append.1 hc with hc | hc
    · have := h2 c hc
      split <;> omega
    · simp at hc; subst hc
      split <;> omega
theorem keyed_low {L : List Nat} {a x : Nat} (h : isLow L L.length a) (hx : (keyed L)[0]? = some x) : key x = key a := by
  obtain ⟨h1, ⟨b, hb, hk⟩, h2⟩ := h
  rw [List.take_length] at h2
  have e1 := h2 x ((keyed_perm L).mem_iff.1 (List.mem_of_getElem? hx))
  have hp := keyed_pair L
  have hb2 := (keyed_perm L).mem_iff.2 hb
  cases hM : keyed L with
  | nil => rw [hM] at hx; cases hx
  | cons y M =>
    rw [hM] at hx hp hb2
    simp at hx; subst hx
    rcases List.mem_cons.1 hb2 with rfl | hm
    · exact hk
    · have := (List.pairwise_cons.1 hp).1 b hm
      omega
theorem keyed_high {L : List Nat} {a x : Nat} (h : isHigh L L.length a) (hx : (keyed L)[L.length - 1]? = some x) : key x = key a := by
  obtain ⟨h1, ⟨b, hb, hk⟩, h2⟩ := h
  rw [List.take_length] at h2
  have e1 := h2 x ((keyed_perm L).mem_iff.1 (List.mem_of_getElem? hx))
  have hp := keyed_pair L
  have hb2 := (keyed_perm L).mem_iff.2 hb
  have hl := (keyed_perm L).length_eq
  obtain ⟨i, hi, he⟩ := List.mem_iff_getElem.1 hb2
  obtain ⟨hi2, he2⟩ := List.getElem?_eq_some_iff.1 hx
  rcases Nat.lt_or_ge i (L.length - 1) with h | h
  · have := List.pairwise_iff_getElem.1 hp i (L.length - 1) hi hi2 h
    rw [he, he2] at this
    omega
  · have : i = L.length - 1 := by omega
    subst this
    rw [he2] at he; subst he
    exact hk
theorem keyed_next {L : List Nat} {i x y : Nat} (hx : (keyed L)[i]? = some x) (hy : (keyed L)[i + 1]? = some y) : decide (key y < key x) = false := by
  obtain ⟨h1, e1⟩ := List.getElem?_eq_some_iff.1 hx
  obtain ⟨h2, e2⟩ := List.getElem?_eq_some_iff.1 hy
  have := List.pairwise_iff_getElem.1 (keyed_pair L) i (i + 1) h1 h2 (by omega)
  rw [e1, e2] at this
  simp; omega
end Go.Proofs.Ytieejbkbdfccdaa
