/- Entries on a disk that stays up: plain laws. -/
import Derived.Test.YticncfkpfpkfoaaRollP
import Derived.Test.YticncfkpfpkfoaaRollF
set_option linter.unusedVariables false
set_option linter.unusedSimpArgs false
namespace Go.Proofs.Yticncfkpfpkfoaa
open Go

theorem app_calm {N x : Nat} {B : List UInt8} : ∀ (k i : Nat) (D : DD), CalmN N D → x + i + k ≤ N →
    (appGo x B k i D).2 = 0 ∧ CalmN N (appGo x B k i D).1 ∧ (∀ j, view (appGo x B k i D).1 j = if x + i ≤ j ∧ j < x + i + k then sealOf (partS B (need B.length) (j - x)) else view D j) ∧
      (appGo x B k i D).1.pend.length ≤ D.pend.length + k ∧ (appGo x B k i D).1.writes ≤ D.writes + k ∧ (appGo x B k i D).1.firm = D.firm := by
  intro k
  induction k with
  | zero =>
    intro i D hc _
    refine ⟨rfl, hc, fun j => ?_, by simp [appGo], by simp [appGo], rfl⟩
    rw [if_neg (by omega)]; rfl
  | succ k ih =>
    intro i D hc hx
    rw [appGo, if_pos (writeE_calmN hc (x := x + i) (by omega))]
    obtain ⟨h1, h2, h3, h4, h5, h6⟩ := ih (i + 1) _ (hc.write (x := x + i) (by omega) (sealOf (partS B (need B.length) i))) (by omega)
    have hp := writeD_pend D ((x + i : Nat) : Int) (sealOf (partS B (need B.length) i))
    have hw := writeD_writes D ((x + i : Nat) : Int) (sealOf (partS B (need B.length) i))
    refine ⟨h1, h2, fun j => ?_, by omega, by omega, ?_⟩
    · rw [h3, view_write (hc.ok (x := x + i) (by omega))]
      by_cases hj : j = x + i
      · subst hj
        rw [if_neg (by omega), if_pos rfl, if_pos (by omega)]
        congr 2
        omega
      · by_cases hr : x + i ≤ j ∧ j < x + i + (k + 1)
        · rw [if_pos hr, if_pos (by omega)]
        · rw [if_neg hr, if_neg (by omega), if_neg (by omega)]
    · rw [h6]
      unfold writeD; split <;> rfl

/-- The area holds these entries, and is blank behind them. -/
def Laid (D : DD) (fr ln : Nat) (es : List (List UInt8)) (left : Nat) : Prop := total es + left = ln ∧ ∀ i, i < ln → view D (fr + i) = (secsAll es ++ List.replicate left (zb 64)).getD i []
theorem Laid.area {D : DD} {fr ln left : Nat} {es : List (List UInt8)} (h : Laid D fr ln es left) : areaS D fr ln = secsAll es ++ List.replicate left (zb 64) := by
  have hl : (secsAll es ++ List.replicate left (zb 64)).length = ln := by rw [List.length_append, secsAll_len, List.length_replicate]; exact h.1
  apply List.ext_getElem?
  intro i
  unfold areaS
  rw [List.getElem?_map]
  by_cases hi : i < ln
  · have := h.2 i hi
    rw [List.getElem?_range hi, Option.map_some]
    rw [List.getD_eq_getElem?_getD, List.getElem?_eq_getElem (by omega)] at this
    rw [List.getElem?_eq_getElem (by omega)]
    exact congrArg some this
  · rw [List.getElem?_eq_none (by rw [List.length_range]; omega), List.getElem?_eq_none (by omega)]
    rfl
theorem oneM_blank (n : Nat) : oneM (List.replicate n (zb 64)) = none := by
  cases n with
  | zero => rfl
  | succ n => exact oneM_bad whole_zb
theorem Laid.scan {D : DD} {fr ln left : Nat} {es : List (List UInt8)} (h : Laid D fr ln es left) (he : ∀ e ∈ es, e.length ≤ 3840) : scanM (areaS D fr ln) = (es, total es) := by
  rw [h.area]
  exact scanM_entries he (oneM_blank left)
theorem Laid.new {D : DD} {fr ln : Nat} (h : ∀ i, i < ln → view D (fr + i) = zb 64) : Laid D fr ln [] ln := by
  refine ⟨by simp [total], fun i hi => ?_⟩
  rw [h i hi]
  simp [secsAll, hi]
theorem Laid.congr {D D' : DD} {fr ln left : Nat} {es : List (List UInt8)} (h : Laid D fr ln es left) (hv : ∀ i, view D' i = view D i) : Laid D' fr ln es left :=
  ⟨h.1, fun i hi => by rw [hv]; exact h.2 i hi⟩
theorem total_snoc (es : List (List UInt8)) (e : List UInt8) : total (es ++ [e]) = total es + need e.length := by simp [total]
theorem secsAll_snoc (es : List (List UInt8)) (e : List UInt8) : secsAll (es ++ [e]) = secsAll es ++ sectorsM e := by simp [secsAll]
theorem Laid.app {D D' : DD} {fr ln left : Nat} {es : List (List UInt8)} {e : List UInt8} (h : Laid D fr ln es left) (hn : need e.length ≤ left)
    (hv : ∀ j, view D' j = if fr + total es ≤ j ∧ j < fr + total es + need e.length then sealOf (partS e (need e.length) (j - (fr + total es))) else view D j) : Laid D' fr ln (es ++ [e]) (left - need e.length) := by
  have h1 := h.1
  refine ⟨by rw [total_snoc]; omega, fun i hi => ?_⟩
  rw [hv, secsAll_snoc]
  by_cases hr : fr + total es ≤ fr + i ∧ fr + i < fr + total es + need e.length
  · rw [if_pos hr, List.append_assoc, List.getD_eq_getElem?_getD, List.getElem?_append_right (by rw [secsAll_len]; omega), secsAll_len, List.getElem?_append_left (by rw [sectorsM_len]; omega)]
    unfold sectorsM
    rw [List.getElem?_map, List.getElem?_range (by omega)]
    simp only [Option.map_some, Option.getD_some]
    congr 2
    omega
  · rw [if_neg hr, h.2 i hi]
    by_cases hlt : i < total es
    · rw [List.getD_eq_getElem?_getD, List.getD_eq_getElem?_getD, List.getElem?_append_left (by rw [secsAll_len]; omega), List.append_assoc, List.getElem?_append_left (by rw [secsAll_len]; omega)]
    · rw [List.getD_eq_getElem?_getD, List.getD_eq_getElem?_getD, List.getElem?_append_right (by rw [secsAll_len]; omega), List.getElem?_append_right (by rw [List.length_append, secsAll_len, sectorsM_len]; omega)]
      rw [secsAll_len, List.length_append, secsAll_len, sectorsM_len, List.getElem?_replicate, List.getElem?_replicate, if_pos (by omega), if_pos (by omega)]

theorem new_calm (n : Nat) : CalmN n (newD n) := ⟨rfl, rfl, by simp [newD], by simp [newD]⟩
theorem view_new {n i : Nat} (h : i < n) : view (newD n) i = zb 64 := by
  unfold view readD newD
  simp [lastW, h]
theorem open_calm {N fr ln : Nat} {D : DD} (hc : CalmN N D) (hp : D.pend = []) (hl : 1 ≤ ln) (hfit : fr + ln ≤ N) :
    ∃ D', openM D (fr : Int) (ln : Int) = (D', 0) ∧ CalmN N D' ∧ D'.pend = [] ∧ (∀ i, view D' i = if fr + openAt D fr ln ≤ i ∧ i < fr + ln then zb 64 else view D i) ∧ D'.writes ≤ D.writes + ln ∧ openAt D fr ln ≤ ln := by
  have hat : openAt D fr ln ≤ ln := by
    have := scanM_le (areaS D fr ln)
    rw [areaS_len] at this
    exact this
  obtain ⟨D', h1, h2, h3, h4, h5⟩ := wipe_inN (N := N) (n := ln - openAt D fr ln) (D := D) (x := fr + openAt D fr ln) (so := false) hc (by omega) (fun _ => hp)
  refine ⟨D', ?_, h2, h3, fun i => ?_, ?_, hat⟩
  · unfold openM
    rw [if_neg (by simp [hc.down]), if_pos ⟨by omega, by omega, by rw [hc.len]; omega, by rw [hc.len]; omega⟩]
    exact h1
  · rw [h4]
    by_cases hr : fr + openAt D fr ln ≤ i ∧ i < fr + ln
    · rw [if_pos hr, if_pos (by omega)]
    · rw [if_neg hr, if_neg (by omega)]
  · rw [h5]
    have : ∀ n x, cnt (view D) x n ≤ n := by
      intro n
      induction n with
      | zero => intro x; simp [cnt]
      | succ n ih =>
        intro x
        rw [cnt]
        have := ih x
        split <;> omega
    have := this (ln - openAt D fr ln) (fr + openAt D fr ln)
    omega
theorem sync_calm {N : Nat} {D : DD} (hc : CalmN N D) : CalmN N (syncD D) ∧ (syncD D).pend = [] ∧ (∀ i, view (syncD D) i = view D i) ∧ (syncD D).writes = D.writes := by
  have hd : ¬ D.down = true := by simp [hc.down]
  unfold syncD
  rw [if_neg hd]
  refine ⟨⟨hc.down, hc.left, by simp [syncF_len', hc.len], by simp⟩, rfl, fun i => ?_, rfl⟩
  unfold view readD
  have := sync_view hc.pend i
  simpa [lastW] using this
theorem appM_ok {N fr ln at_ : Nat} {B : List UInt8} {D : DD} (hc : CalmN N D) (hfit : fr + ln ≤ N) (hB : B.length ≤ 3840) (hn : at_ + need B.length ≤ ln) :
    ∃ D', appM fr ln at_ B D = (D', 0, at_ + need B.length) ∧ CalmN N D' ∧ (∀ j, view D' j = if fr + at_ ≤ j ∧ j < fr + at_ + need B.length then sealOf (partS B (need B.length) (j - (fr + at_))) else view D j) ∧
      D'.pend.length ≤ D.pend.length + need B.length ∧ D'.writes ≤ D.writes + need B.length ∧ D'.firm = D.firm := by
  obtain ⟨h1, h2, h3, h4, h5, h6⟩ := app_calm (x := fr + at_) (B := B) (need B.length) 0 D hc (by omega)
  refine ⟨_, ?_, h2, fun j => ?_, h4, h5, h6⟩
  · unfold appM
    rw [if_neg (by simp [hc.down]), if_neg (by omega), if_neg (by omega), h1]
    rfl
  · rw [h3 j]; simp
theorem appM_full {fr ln at_ : Nat} {B : List UInt8} {D : DD} (hd : D.down = false) (hB : B.length ≤ 3840) (hat : at_ ≤ ln) (hn : ¬ at_ + need B.length ≤ ln) : appM fr ln at_ B D = (D, 8, at_) := by
  unfold appM
  have := need_pos B.length
  rw [if_neg (by simp [hd]), if_neg (by omega), if_pos (by omega)]
theorem appM_long {fr ln at_ : Nat} {B : List UInt8} {D : DD} (hd : D.down = false) (hB : 3840 < B.length) : appM fr ln at_ B D = (D, 3, at_) := by
  unfold appM
  rw [if_neg (by simp [hd]), if_pos hB]
end Go.Proofs.Yticncfkpfpkfoaa
