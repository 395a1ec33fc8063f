/- Disks of any size that are up, and stay up. -/
import Derived.Test.YticncfkpfpkfoaaSWipes0
set_option linter.unusedVariables false
set_option linter.unusedSimpArgs false
namespace Go.Proofs.Yticncfkpfpkfoaa
open Go

/-- A disk that is up, and stays up. -/
structure CalmN (N : Nat) (D : DD) : Prop where
  down : D.down = false
  left : D.left = 0
  len : D.firm.length = N
  pend : ∀ p ∈ D.pend, 0 ≤ p.1 ∧ p.1 < D.firm.length
theorem CalmN.ok {N : Nat} {D : DD} (h : CalmN N D) {x : Nat} (hx : x < N) : okE D x = 0 := by
  unfold okE; rw [h.down, h.len]; simp; omega
theorem CalmN.write {N : Nat} {D : DD} (h : CalmN N D) {x : Nat} (hx : x < N) (s : List UInt8) : CalmN N (writeD D x s) := by
  unfold writeD
  rw [if_pos (h.ok hx)]
  refine ⟨by simp [h.left], by simp [h.left], h.len, fun p hp => ?_⟩
  simp only [List.mem_append, List.mem_singleton] at hp
  rcases hp with hp | rfl
  · exact h.pend p hp
  · simp only; rw [h.len]; omega
theorem writes_writeN {N : Nat} {D : DD} (h : CalmN N D) {x : Nat} (hx : x < N) (s : List UInt8) : (writeD D x s).writes = D.writes + 1 := by
  unfold writeD; rw [if_pos (h.ok hx)]
theorem writeE_calmN {N : Nat} {D : DD} (h : CalmN N D) {x : Nat} (hx : x < N) : writeE D x = 0 := by
  unfold writeE; rw [if_pos (h.ok hx), h.left]; rfl

theorem wipe_inN {N n : Nat} : ∀ {D : DD} {x : Nat} {so : Bool}, CalmN N D → x + n ≤ N → (so = false → D.pend = []) →
    ∃ D', wipeGo n D x so = (D', 0) ∧ CalmN N D' ∧ D'.pend = [] ∧ (∀ i, view D' i = if x ≤ i ∧ i < x + n then zb 64 else view D i) ∧ D'.writes = D.writes + cnt (view D) x n := by
  induction n with
  | zero =>
    intro D x so hc hx hp
    cases so with
    | false =>
      refine ⟨D, rfl, hc, hp rfl, fun i => ?_, by simp [cnt]⟩
      rw [if_neg (by omega)]
    | true =>
      refine ⟨syncD D, by simp [wipeGo, hc.down], ?_, by simp [syncD, hc.down], fun i => ?_, by simp [syncD, hc.down, cnt]⟩
      · unfold syncD; rw [if_neg (by rw [hc.down]; simp)]
        exact ⟨hc.down, hc.left, by simp [syncF_len', hc.len], by simp⟩
      · rw [if_neg (by omega)]
        unfold view readD syncD
        rw [if_neg (by rw [hc.down]; simp)]
        simp only
        have := sync_view hc.pend i
        simpa [lastW] using this
  | succ n ih =>
    intro D x so hc hx hp
    rw [wipeGo, if_pos (hc.ok (by omega))]
    by_cases hz : readD D x = zb 64
    · rw [if_pos hz]
      obtain ⟨D', h1, h2, h2', h3, h4⟩ := ih (D := D) (x := x + 1) (so := so) hc (by omega) hp
      refine ⟨D', by simpa using h1, h2, h2', fun i => ?_, ?_⟩
      · rw [h3]
        by_cases hi : i = x
        · subst hi
          rw [if_neg (by omega), if_pos (by omega)]; exact hz
        · by_cases hr : x ≤ i ∧ i < x + (n + 1)
          · rw [if_pos hr, if_pos (by omega)]
          · rw [if_neg hr, if_neg (by omega)]
      · rw [h4, cnt_front, if_pos (show view D x = zb 64 from hz)]; simp
    · rw [if_neg hz, if_pos (writeE_calmN hc (by omega))]
      obtain ⟨D', h1, h2, h2', h3, h4⟩ := ih (D := writeD D x (zb 64)) (x := x + 1) (so := true) (hc.write (by omega) _) (by omega) (by simp)
      refine ⟨D', by simpa using h1, h2, h2', fun i => ?_, ?_⟩
      · rw [h3, view_write (hc.ok (by omega))]
        by_cases hi : i = x
        · subst hi
          rw [if_neg (by omega), if_pos rfl, if_pos (by omega)]
        · by_cases hr : x ≤ i ∧ i < x + (n + 1)
          · rw [if_pos hr, if_pos (by omega)]
          · rw [if_neg hr, if_neg (by omega), if_neg (by omega)]
      · rw [h4, writes_writeN hc (by omega), cnt_front, if_neg (show ¬ view D x = zb 64 from hz), cnt_congr (v' := view D) (fun i a b => by rw [view_write (hc.ok (by omega)), if_neg (by omega)])]
        omega
theorem view_drop {N : Nat} {D D' : DD} (h : ∀ i, view D i = view D' i) (fr ln : Nat) : (List.range ln).map (fun i => readD D ((fr + i : Nat) : Int)) = (List.range ln).map fun i => readD D' ((fr + i : Nat) : Int) := by
  apply List.map_congr_left
  intro i _
  exact h (fr + i)
/-- A crash, where nothing is pending. -/
theorem crash_firm {N : Nat} {D : DD} (h : CalmN N D) (hp : D.pend = []) : crashD D [] = D := by
  obtain ⟨firm, pend, left, down, writes⟩ := D
  obtain ⟨h1, h2, h3, h4⟩ := h
  simp only at hp h1 h2
  subst hp; subst h1; subst h2
  rfl
end Go.Proofs.Yticncfkpfpkfoaa
