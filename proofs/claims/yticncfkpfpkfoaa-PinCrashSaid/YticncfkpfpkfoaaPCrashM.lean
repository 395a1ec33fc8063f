/- PinCrash: the plain law of a disk that goes down while a pin is put. -/
import Derived.Test.YticncfkpfpkfoaaPRows
set_option linter.unusedVariables false
set_option linter.unusedSimpArgs false
namespace Go.Proofs.Yticncfkpfpkfoaa
open Go

/-- A disk that isn't down. -/
structure UpN (N : Nat) (D : DD) : Prop where
  down : D.down = false
  len : D.firm.length = N
  pend : ∀ p ∈ D.pend, 0 ≤ p.1 ∧ p.1 < D.firm.length
theorem UpN.ok {N : Nat} {D : DD} (h : UpN N D) {x : Nat} (hx : x < N) : okE D (x : Int) = 0 := by
  unfold okE
  rw [if_neg (by simp [h.down]), if_neg (by rw [h.len]; omega)]
theorem UpN.write {N : Nat} {D : DD} (h : UpN N D) {x : Nat} (hx : x < N) (hl : D.left ≠ 1) (s : List UInt8) : UpN N (writeD D (x : Int) s) ∧ writeE D (x : Int) = 0 ∧ (writeD D (x : Int) s).left = (if 0 < D.left then D.left - 1 else D.left) := by
  have ho := h.ok hx
  unfold writeD writeE
  rw [if_pos ho, if_pos ho, if_neg hl]
  refine ⟨⟨by simp [hl], h.len, fun p hp => ?_⟩, rfl, rfl⟩
  rcases List.mem_append.1 hp with hp | hp
  · exact h.pend p hp
  · rw [List.mem_singleton] at hp; subst hp
    exact ⟨by simp, by show (x : Int) < D.firm.length; rw [h.len]; omega⟩
theorem UpN.sync {N : Nat} {D : DD} (h : UpN N D) : UpN N (syncD D) ∧ (syncD D).pend = [] ∧ (∀ i, view (syncD D) i = view D i) ∧ (syncD D).left = D.left := by
  have hd : ¬ D.down = true := by simp [h.down]
  unfold syncD
  rw [if_neg hd]
  refine ⟨⟨h.down, by simp [syncF_len', h.len], by simp⟩, rfl, fun i => ?_, rfl⟩
  unfold view readD
  have := sync_view h.pend i
  simpa [lastW] using this
theorem up_view {N : Nat} {D : DD} (h : UpN N D) {k : Nat} (hk : k < N) (s : List UInt8) : ∀ i, view (writeD D (k : Int) s) i = if i = k then s else view D i := fun i => by
  rw [view_write (h.ok hk)]
  by_cases hi : i = k
  · subst hi; rw [if_pos rfl, if_pos rfl]
  · rw [if_neg (by omega), if_neg hi]
theorem viewE {D : DD} (h : D.pend = []) (i : Nat) : view D i = D.firm.getD i [] := by
  unfold view readD
  rw [h]
  simp [lastW]
theorem crash_none {N : Nat} {D : DD} (kept : List Int) (h : D.firm.length = N) (hp : D.pend = []) : CalmN N (crashD D kept) ∧ (crashD D kept).pend = [] ∧ (crashD D kept).writes = D.writes ∧ ∀ i, view (crashD D kept) i = view D i := by
  have hf : (crashD D kept).firm = D.firm := by show crashF kept D.firm 0 D.pend = D.firm; rw [hp]; rfl
  refine ⟨⟨rfl, rfl, by rw [hf, h], by intro p hp; simp [crashD] at hp⟩, rfl, rfl, fun i => ?_⟩
  rw [viewE rfl, viewE hp, hf]
theorem crash_one {N : Nat} {D : DD} (kept : List Int) (h : D.firm.length = N) {k : Nat} {t : List UInt8} (hk : k < N) (hp : D.pend = [((k : Int), t)]) : CalmN N (crashD D kept) ∧ (crashD D kept).pend = [] ∧ (crashD D kept).writes = D.writes ∧
    ∀ i, view (crashD D kept) i = if i = k then tear (D.firm.getD k []) t (clampN kept 0) else D.firm.getD i [] := by
  have hf : (crashD D kept).firm = D.firm.set k (tear (D.firm.getD k []) t (clampN kept 0)) := by show crashF kept D.firm 0 D.pend = _; rw [hp]; rfl
  refine ⟨⟨rfl, rfl, by rw [hf, List.length_set, h], by intro p hp; simp [crashD] at hp⟩, rfl, rfl, fun i => ?_⟩
  rw [viewE rfl, hf, List.getD_eq_getElem?_getD, List.getElem?_set]
  by_cases hi : k = i
  · subst hi; rw [if_pos rfl, if_pos rfl, if_pos (by omega)]; rfl
  · rw [if_neg hi, if_neg (fun h => hi h.symm), ← List.getD_eq_getElem?_getD]
theorem clamp64 (kept : List Int) (i : Nat) : clampN kept i ≤ 64 := by
  unfold clampN
  split
  · omega
  · omega
/-- What is there behind a crash, wherever the disk went down while a pin was put. -/
theorem put_crash {D : DD} {k : Nat} {n : Nat} {old one nx : PinP} (kept : List Int) (hc : CalmN 2 D) (hp : D.pend = []) (hn : n < 4) (hk : k < 2) (hok : okPin nx) (hnk : nx.s % 2 = (k : Int)) (h1 : okPin one) (hold : one.s < old.s)
    (hv1 : view D k = sealOf (pinB one)) (hw : D.writes ≤ 1000) :
    ∃ D4 c, putM nx (breakD D (n : Int)) = (D4, c) ∧ CalmN 2 (crashD D4 kept) ∧ (crashD D4 kept).pend = [] ∧ (crashD D4 kept).writes ≤ D.writes + 2 ∧ (∀ i, i ≠ k → view (crashD D4 kept) i = view D i) ∧ D4.pend.length ≤ 1 ∧
      ((view (crashD D4 kept) k = sealOf (pinB nx)) ∨ (c ≠ 0 ∧ ∀ p, ofM (view (crashD D4 kept) k) = some p → p.s < old.s)) := by
  obtain ⟨B, hB⟩ : ∃ B, B = breakD D (n : Int) := ⟨_, rfl⟩
  have hBl : B.left = (n : Int) := by rw [hB]; show max (n : Int) 0 = n; omega
  have hBw : B.writes = D.writes := by rw [hB]; rfl
  have hBp : B.pend = [] := by rw [hB]; exact hp
  have hBu : UpN 2 B := by rw [hB]; exact ⟨hc.down, hc.len, hc.pend⟩
  have hBv : ∀ i, view B i = view D i := fun i => by rw [hB]; rfl
  rw [← hB]
  have hr : reachM B = 0 := by unfold reachM; rw [if_neg (by simp [hBu.down]), if_neg (by rw [hBu.len]; omega)]
  have hokE := hBu.ok hk
  have hne : ¬ readD B (k : Int) = zb 64 := by
    have : readD B (k : Int) = sealOf (pinB one) := by rw [← hv1, ← hBv]; rfl
    rw [this]
    exact sealOf_ne (pinB_len h1)
  have hseal := sealOf_length (pinB_len h1)
  by_cases hn1 : n = 1
  · -- it goes down while the sector is wiped
    have hE : writeE B (k : Int) = 14 := by unfold writeE; rw [if_pos hokE, if_pos (by rw [hBl, hn1]; rfl)]
    have hwg : wipeGo 1 B (k : Int) false = (writeD B (k : Int) (zb 64), 14) := by
      unfold wipeGo
      rw [if_pos hokE, if_neg hne, hE, if_neg (by omega)]
    have hW : writeD B (k : Int) (zb 64) = { B with pend := B.pend ++ [((k : Int), zb 64)], writes := B.writes + 1, left := if 0 < B.left then B.left - 1 else B.left, down := decide (B.left = 1) } := by unfold writeD; rw [if_pos hokE]
    have hput : putM nx B = (writeD B (k : Int) (zb 64), 14) := by
      unfold putM
      rw [if_neg (by simp [hr]), if_neg (by simp [hok]), hnk, hwg, if_pos (by simp)]
    obtain ⟨a1, a2, a3, a4⟩ := crash_one (D := writeD B (k : Int) (zb 64)) (N := 2) (k := k) (t := zb 64) kept (by rw [hW]; exact hBu.len) hk (by rw [hW]; show B.pend ++ _ = _; rw [hBp]; rfl)
    have hfirm : (writeD B (k : Int) (zb 64)).firm = B.firm := by rw [hW]
    refine ⟨_, _, hput, a1, a2, by rw [a3, hW]; show B.writes + 1 ≤ _; omega, fun i hi => by rw [a4, if_neg hi, hfirm, ← hBv, viewE hBp], by rw [hW]; show (B.pend ++ _).length ≤ 1; rw [hBp]; exact Nat.le_refl 1, .inr ⟨by omega, fun p hpp => ?_⟩⟩
    rw [a4, if_pos rfl, hfirm, ← viewE hBp, hBv, hv1] at hpp
    by_cases hc0 : clampN kept 0 = 0
    · have ht : tear (sealOf (pinB one)) (zb 64) (clampN kept 0) = sealOf (pinB one) := by rw [hc0]; rfl
      rw [ht, ofM_seal h1] at hpp
      simp only [Option.some.injEq] at hpp
      subst hpp; exact hold
    · rw [ofM_bad (fun hh => hc0 ((whole_old (pinB_len h1) (clamp64 kept 0)).1 hh))] at hpp
      cases hpp
  · obtain ⟨u1, u2, u3⟩ := hBu.write hk (by rw [hBl]; omega) (zb 64)
    obtain ⟨v1, v2, v3, v4⟩ := u1.sync
    obtain ⟨D1, hD1⟩ : ∃ D1, D1 = syncD (writeD B (k : Int) (zb 64)) := ⟨_, rfl⟩
    have hwg : wipeGo 1 B (k : Int) false = (D1, 0) := by
      unfold wipeGo
      rw [if_pos hokE, if_neg hne, if_pos u2]
      unfold wipeGo
      rw [if_pos rfl, u1.down, hD1]
      rfl
    rw [← hD1] at v1 v2 v3 v4
    have hD1l : D1.left = if 0 < B.left then B.left - 1 else B.left := by rw [v4, u3]
    have hD1v : ∀ i, view D1 i = if i = k then zb 64 else view D i := fun i => by rw [v3, up_view hBu hk, hBv]
    have hD1w : D1.writes ≤ D.writes + 1 := by
      rw [hD1, (syncD_bound _).2]
      have := pinW_writes B (k : Int) (zb 64)
      omega
    have ho1 := v1.ok hk
    have hsl := sealOf_length (pinB_len hok)
    by_cases hn2 : n = 2
    · -- it goes down while the pin is written
      have hl1 : D1.left = 1 := by rw [hD1l, hBl, hn2]; rfl
      have hE : writeE D1 (k : Int) = 14 := by unfold writeE; rw [if_pos ho1, if_pos hl1]
      have hW : writeD D1 (k : Int) (sealOf (pinB nx)) = { D1 with pend := D1.pend ++ [((k : Int), sealOf (pinB nx))], writes := D1.writes + 1, left := if 0 < D1.left then D1.left - 1 else D1.left, down := decide (D1.left = 1) } := by unfold writeD; rw [if_pos ho1]
      have hput : putM nx B = (writeD D1 (k : Int) (sealOf (pinB nx)), 14) := by
        unfold putM
        rw [if_neg (by simp [hr]), if_neg (by simp [hok]), hnk, hwg]
        simp only
        rw [if_neg (by simp), hE, if_pos (by omega)]
      obtain ⟨a1, a2, a3, a4⟩ := crash_one (D := writeD D1 (k : Int) (sealOf (pinB nx))) (N := 2) (k := k) (t := sealOf (pinB nx)) kept (by rw [hW]; exact v1.len) hk (by rw [hW]; show D1.pend ++ _ = _; rw [v2]; rfl)
      have hfirm : (writeD D1 (k : Int) (sealOf (pinB nx))).firm = D1.firm := by rw [hW]
      refine ⟨_, _, hput, a1, a2, by rw [a3, hW]; show D1.writes + 1 ≤ _; omega, fun i hi => by rw [a4, if_neg hi, hfirm, ← viewE v2, hD1v, if_neg hi], by rw [hW]; show (D1.pend ++ _).length ≤ 1; rw [v2]; exact Nat.le_refl 1, ?_⟩
      have hvk : view (crashD (writeD D1 (k : Int) (sealOf (pinB nx))) kept) k = tear (zb 64) (sealOf (pinB nx)) (clampN kept 0) := by
        rw [a4, if_pos rfl, hfirm, ← viewE v2, hD1v, if_pos rfl]
      rw [hvk]
      by_cases hc64 : clampN kept 0 = 64
      · left
        rw [hc64]
        unfold tear
        rw [List.take_of_length_le (by omega), List.drop_eq_nil_of_le (by simp)]
        simp
      · right
        refine ⟨by omega, fun p hpp => ?_⟩
        rw [ofM_bad (fun hh => hc64 ((whole_neu (pinB_len hok) (clamp64 kept 0)).1 hh))] at hpp
        cases hpp
    · -- it stays up
      have hl1 : D1.left ≠ 1 := by
        rw [hD1l, hBl]
        split
        · omega
        · omega
      obtain ⟨w1, w2, w3⟩ := v1.write hk hl1 (sealOf (pinB nx))
      obtain ⟨x1, x2, x3, x4⟩ := w1.sync
      have hput : putM nx B = (syncD (writeD D1 (k : Int) (sealOf (pinB nx))), 0) := by
        unfold putM
        rw [if_neg (by simp [hr]), if_neg (by simp [hok]), hnk, hwg]
        simp only
        rw [if_neg (by simp), if_neg (by simp [w2]), if_neg (by simp [w1.down])]
      obtain ⟨a1, a2, a3, a4⟩ := crash_none (D := syncD (writeD D1 (k : Int) (sealOf (pinB nx)))) (N := 2) kept x1.len x2
      refine ⟨_, _, hput, a1, a2, ?_, fun i hi => by rw [a4, x3, up_view v1 hk, if_neg hi, hD1v, if_neg hi], by rw [x2]; simp, .inl (by rw [a4, x3, up_view v1 hk, if_pos rfl])⟩
      rw [a3, (syncD_bound _).2]
      have := pinW_writes D1 (k : Int) (sealOf (pinB nx))
      omega
end Go.Proofs.Yticncfkpfpkfoaa
