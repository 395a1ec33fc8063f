/- Entries and sectors: plain laws. -/
import Derived.Test.YtieejbkbdfccdaaGreatKS
import Derived.Test.YtieejbkbdfccdaaGreatKQ
set_option linter.unusedVariables false
set_option linter.unusedSimpArgs false
namespace Go.Proofs.YtieejbkbdfccdaaGreat
open Go
theorem need_bounds (n : Nat) : n ≤ 60 * need n ∧ (1 < need n → 60 * (need n - 1) < n) := by unfold need; omega
theorem need_le {n : Nat} (h : n ≤ 3840) : need n ≤ 64 := by unfold need; omega
theorem leftOf_sec {b : List UInt8} {n i : Nat} (h : n - 1 - i < 256) : leftOf (sealOf (partS b n i)) = n - 1 - i := by
  unfold leftOf
  rw [(whole_sealOf (partS_len b n i)).2]
  unfold partS
  simp [gb, UInt8.toNat_ofNat']
  omega
theorem pay_sec (b : List UInt8) (n i : Nat) : pay (sealOf (partS b n i)) = partS b n i := (whole_sealOf (partS_len b n i)).2
/-- The sectors of an entry from its part i on. -/
def secsFrom (b : List UInt8) (n : Nat) : Nat → Nat → List (List UInt8)
  | 0, _ => []
  | k + 1, i => sealOf (partS b n i) :: secsFrom b n k (i + 1)
theorem secsFrom_eq (b : List UInt8) (n : Nat) : ∀ (k i : Nat), secsFrom b n k i = (List.range k).map fun j => sealOf (partS b n (i + j)) := by
  intro k
  induction k with
  | zero => intro i; rfl
  | succ k ih =>
    intro i
    rw [secsFrom, ih, List.range_succ_eq_map, List.map_cons, List.map_map]
    congr 1
    apply List.map_congr_left
    intro j _
    simp only [Function.comp_apply]
    congr 2
    omega
theorem sectorsM_from (b : List UInt8) : sectorsM b = secsFrom b (need b.length) (need b.length) 0 := by
  rw [secsFrom_eq]
  unfold sectorsM
  apply List.map_congr_left
  intro j _
  rw [Nat.zero_add]
/-- An entry's sectors are told of. -/
theorem one_back {b : List UInt8} (hb : b.length ≤ 3840) (R : List (List UInt8)) : ∀ (k i first : Nat), k + i = need b.length → 0 < k → (0 < i → first = need b.length - 1) →
    oneGo (secsFrom b (need b.length) k i ++ R) i first (b.take (60 * i)) = some (b, need b.length) := by
  obtain ⟨hn1, hn2⟩ := need_bounds b.length
  have hn64 := need_le hb
  generalize need b.length = n at *
  intro k
  induction k with
  | zero => intro i first _ h; omega
  | succ k ih =>
    intro i first hk _ hf
    rw [secsFrom, List.cons_append, oneGo]
    have hw := whole_sealOf (partS_len b n i)
    have hl := leftOf_sec (b := b) (n := n) (i := i) (by omega)
    have hp := pay_sec b n i
    have hpl : (partS b n i).length = 1 + ((b.drop (60 * i)).take 60).length := by simp [partS]; omega
    have hpl2 : ((b.drop (60 * i)).take 60).length = min 60 (b.length - 60 * i) := by simp
    have hfo : firstOf i first (sealOf (partS b n i)) = n - 1 := by
      unfold firstOf
      split
      · rename_i h0; rw [hl, h0]; omega
      · exact hf (by omega)
    rw [if_pos ⟨hw.1, by rw [hp, hpl]; omega⟩, hfo]
    have hbad : ¬ badP i (n - 1) (sealOf (partS b n i)) := by
      unfold badP
      rw [hl, hp, hpl, hpl2]
      omega
    rw [if_neg hbad, hl, hp]
    have hout : b.take (60 * i) ++ (partS b n i).drop 1 = b.take (60 * (i + 1)) := by
      have : (partS b n i).drop 1 = (b.drop (60 * i)).take 60 := rfl
      rw [this, Nat.mul_add, List.take_add]
    rw [hout]
    by_cases h0 : n - 1 - i = 0
    · rw [if_pos h0]
      have hk0 : k = 0 := by omega
      have hin : i + 1 = n := by omega
      rw [hin, List.take_of_length_le hn1]
    · rw [if_neg h0]
      exact ih (i + 1) (n - 1) (by omega) (by omega) (fun _ => rfl)
theorem oneM_back {b : List UInt8} (hb : b.length ≤ 3840) (R : List (List UInt8)) : oneM (sectorsM b ++ R) = some (b, need b.length) := by
  have := one_back hb R (need b.length) 0 0 rfl (need_pos _) (by omega)
  rw [sectorsM_from]
  simpa [oneM] using this
def total (es : List (List UInt8)) : Nat := (es.map fun b => need b.length).sum
def secsAll (es : List (List UInt8)) : List (List UInt8) := (es.map sectorsM).flatten
theorem secsAll_len (es : List (List UInt8)) : (secsAll es).length = total es := by
  induction es with
  | nil => rfl
  | cons e es ih => simp only [secsAll, total, List.map_cons, List.flatten_cons, List.length_append, List.sum_cons] at ih ⊢; rw [ih, sectorsM_len]
theorem scan_entries : ∀ (es : List (List UInt8)) (R : List (List UInt8)) (f at_ : Nat), (∀ e ∈ es, e.length ≤ 3840) → (secsAll es ++ R).length ≤ f → oneM R = none → scanGo f (secsAll es ++ R) at_ = (es, at_ + total es) := by
  intro es
  induction es with
  | nil =>
    intro R f at_ _ hf hR
    exact scanGo_none hR f at_
  | cons e es ih =>
    intro R f at_ h hf hR
    have e1 : secsAll (e :: es) ++ R = sectorsM e ++ (secsAll es ++ R) := by simp [secsAll]
    have ho := oneM_back (h e List.mem_cons_self) (secsAll es ++ R)
    rw [← e1] at ho
    obtain ⟨f', rfl, h1, h2⟩ := scanGo_some (at_ := at_) ho hf
    have e2 : (secsAll (e :: es) ++ R).drop (need e.length) = secsAll es ++ R := by
      rw [e1, ← sectorsM_len e, List.drop_left]
    rw [e2] at h1 h2
    rw [h2, ih R f' _ (fun x hx => h x (List.mem_cons_of_mem _ hx)) h1 hR]
    simp [total]
    omega
theorem scanM_entries {es : List (List UInt8)} {R : List (List UInt8)} (h : ∀ e ∈ es, e.length ≤ 3840) (hR : oneM R = none) : scanM (secsAll es ++ R) = (es, total es) := by
  have := scan_entries es R _ 0 h (Nat.le_refl _) hR
  unfold scanM
  rw [this]
  simp
/-- Where no sector is whole, there is no entry. -/
theorem oneM_bad {s : List UInt8} {R : List (List UInt8)} (h : ¬ isWhole s) : oneM (s :: R) = none := by
  unfold oneM
  rw [oneGo, if_neg (fun hh => h hh.1)]
theorem whole_zb : ¬ isWhole (zb 64) := by
  intro h
  have := h.1
  rw [gb_zb] at this
  simp at this
/-! ### Appending to a disk that stays up -/
end Go.Proofs.YtieejbkbdfccdaaGreat

set_option linter.unusedVariables false
set_option linter.unusedSimpArgs false
namespace Go.Proofs.YtieejbkbdfccdaaGreat
open Go
/-- The area holds these entries, and is blank behind them. -/
def Laid (D : DD) (fr ln : Nat) (es : List (List UInt8)) (left : Nat) : Prop := total es + left = ln ∧ ∀ i, i < ln → view D (fr + i) = (secsAll es ++ List.replicate left (zb 64)).getD i []
theorem Laid.area {D : DD} {fr ln left : Nat} {es : List (List UInt8)} (h : Laid D fr ln es left) : areaS D fr ln = secsAll es ++ List.replicate left (zb 64) := by
  have hl : (secsAll es ++ List.replicate left (zb 64)).length = ln := by rw [List.length_append, secsAll_len, List.length_replicate]; exact h.1
  apply List.ext_getElem?
  intro i
  unfold areaS
  rw [List.getElem?_map]
  by_cases hi : i < ln
  · have := h.2 i hi
    rw [List.getElem?_range hi, Option.map_some]
    rw [List.getD_eq_getElem?_getD, List.getElem?_eq_getElem (by omega)] at this
    rw [List.getElem?_eq_getElem (by omega)]
    exact congrArg some this
  · rw [List.getElem?_eq_none (by rw [List.length_range]; omega), List.getElem?_eq_none (by omega)]
    rfl
theorem oneM_blank (n : Nat) : oneM (List.replicate n (zb 64)) = none := by
  cases n with
  | zero => rfl
  | succ n => exact oneM_bad whole_zb
theorem Laid.scan {D : DD} {fr ln left : Nat} {es : List (List UInt8)} (h : Laid D fr ln es left) (he : ∀ e ∈ es, e.length ≤ 3840) : scanM (areaS D fr ln) = (es, total es) := by
  rw [h.area]
  exact scanM_entries he (oneM_blank left)
theorem Laid.new {D : DD} {fr ln : Nat} (h : ∀ i, i < ln → view D (fr + i) = zb 64) : Laid D fr ln [] ln := by
  refine ⟨by simp [total], fun i hi => ?_⟩
  rw [h i hi]
  simp [secsAll, hi]
theorem Laid.congr {D D' : DD} {fr ln left : Nat} {es : List (List UInt8)} (h : Laid D fr ln es left) (hv : ∀ i, view D' i = view D i) : Laid D' fr ln es left :=
  ⟨h.1, fun i hi => by rw [hv]; exact h.2 i hi⟩
theorem total_snoc (es : List (List UInt8)) (e : List UInt8) : total (es ++ [e]) = total es + need e.length := by simp [total]
theorem secsAll_snoc (es : List (List UInt8)) (e : List UInt8) : secsAll (es ++ [e]) = secsAll es ++ sectorsM e := by simp [secsAll]
theorem Laid.app {D D' : DD} {fr ln left : Nat} {es : List (List UInt8)} {e : List UInt8} (h : Laid D fr ln es left) (hn : need e.length ≤ left)
    (hv : ∀ j, view D' j = if fr + total es ≤ j ∧ j < fr + total es + need e.length then sealOf (partS e (need e.length) (j - (fr + total es))) else view D j) : Laid D' fr ln (es ++ [e]) (left - need e.length) := by
  have h1 := h.1
  refine ⟨by rw [total_snoc]; omega, fun i hi => ?_⟩
  rw [hv, secsAll_snoc]
  by_cases hr : fr + total es ≤ fr + i ∧ fr + i < fr + total es + need e.length
  · rw [if_pos hr, List.append_assoc, List.getD_eq_getElem?_getD, List.getElem?_append_right (by rw [secsAll_len]; omega), secsAll_len, List.getElem?_append_left (by rw [sectorsM_len]; omega)]
    unfold sectorsM
    rw [List.getElem?_map, List.getElem?_range (by omega)]
    simp only [Option.map_some, Option.getD_some]
    congr 2
    omega
  · rw [if_neg hr, h.2 i hi]
    by_cases hlt : i < total es
    · rw [List.getD_eq_getElem?_getD, List.getD_eq_getElem?_getD, List.getElem?_append_left (by rw [secsAll_len]; omega), List.append_assoc, List.getElem?_append_left (by rw [secsAll_len]; omega)]
    · rw [List.getD_eq_getElem?_getD, List.getD_eq_getElem?_getD, List.getElem?_append_right (by rw [secsAll_len]; omega), List.getElem?_append_right (by rw [List.length_append, secsAll_len, sectorsM_len]; omega)]
      rw [secsAll_len, List.length_append, secsAll_len, sectorsM_len, List.getElem?_replicate, List.getElem?_replicate, if_pos (by omega), if_pos (by omega)]
theorem view_new {n i : Nat} (h : i < n) : view (newD n) i = zb 64 := by
  unfold view readD newD
  simp [lastW, h]
end Go.Proofs.YtieejbkbdfccdaaGreat

set_option linter.unusedVariables false
set_option linter.unusedSimpArgs false
namespace Go.Proofs.YtieejbkbdfccdaaGreat
open Go
end Go.Proofs.YtieejbkbdfccdaaGreat

set_option linter.unusedVariables false
set_option linter.unusedSimpArgs false
namespace Go.Proofs.YtieejbkbdfccdaaGreat
open Go
theorem total_append (a b : List (List UInt8)) : total (a ++ b) = total a + total b := by unfold total; rw [List.map_append, List.sum_append]
theorem area_eq {D : DD} {fr ln : Nat} {L : List (List UInt8)} (hl : L.length = ln) (h : ∀ i, i < ln → view D (fr + i) = L.getD i []) : areaS D fr ln = L := by
  apply List.ext_getElem?
  intro i
  unfold areaS
  rw [List.getElem?_map]
  by_cases hi : i < ln
  · rw [List.getElem?_range hi, Option.map_some]
    have := h i hi
    unfold view at this
    rw [this, List.getD_eq_getElem?_getD, List.getElem?_eq_getElem (by omega)]
    rfl
  · rw [List.getElem?_eq_none (by rw [List.length_range]; omega), List.getElem?_eq_none (by omega)]
    rfl
theorem getD_rep {n i : Nat} (h : i < n) : (List.replicate n (zb 64)).getD i [] = zb 64 := by
  rw [List.getD_eq_getElem?_getD, List.getElem?_replicate, if_pos h]; rfl
end Go.Proofs.YtieejbkbdfccdaaGreat
