/- RollDown: the law. -/
import Derived.Test.YticncfkpfpkfoaaRollS
set_option linter.unusedVariables false
set_option linter.unusedSimpArgs false
namespace Go.Proofs.Yticncfkpfpkfoaa
open Go

/-- A new disk's area, opened. -/
theorem open_new {w : World} {b N fr ln : Nat} {F : List Nat} (hd : IsD w b (newD N) F) (hN : N ≤ 4096) (hl : 1 ≤ ln) (hl2 : ln ≤ 1000) (hfit : fr + ln ≤ N) :
    Ret P 45 #[pt b 0, ar (fr : Int) (ln : Int)] w fun x w' => ∃ r ov D1 F1, x = .tuple #[pt r 0, ov, i64 0] ∧ IsD w' b D1 F1 ∧ Grow F w F1 w' ∧ IsRoll w' r b (fr : Int) (ln : Int) ((0 : Nat) : Int) ∧ sz w ≤ r ∧ r ∉ F1 ∧
      CalmN N D1 ∧ D1.pend = [] ∧ Laid D1 fr ln [] ln ∧ D1.writes ≤ ln := by
  have hlaid0 : Laid (newD N) fr ln [] ln := Laid.new (fun i hi => view_new (by omega))
  have hsc0 := hlaid0.scan (by simp)
  have hat0 : openAt (newD N) (fr : Int) (ln : Int) = 0 := by
    unfold openAt
    simp only [Int.toNat_natCast]
    rw [hsc0]; rfl
  obtain ⟨D1, ho1, hc1, hp1, hv1, hw1, _⟩ := open_calm (N := N) (fr := fr) (ln := ln) (new_calm N) rfl hl hfit
  have hlaid1 : Laid D1 fr ln [] ln := Laid.new (fun i hi => by
    rw [hv1]
    split
    · rfl
    · exact view_new (by omega))
  refine (open_rspec (fr := (fr : Int)) (ln := (ln : Int)) hd (by omega) (by omega) (fun _ => by omega) (by simp [newD]) (by simp [newD])).mono ?_
  rintro x w2 ⟨F1, hO⟩
  obtain ⟨r, ov, Lp, rfl, hro, hrw, hrF, _⟩ := hO.good (by rw [ho1])
  have hd2 : IsD w2 b D1 F1 := by have := hO.isd; rw [ho1] at this; exact this
  rw [hat0] at hro
  exact ⟨r, ov, D1, F1, rfl, hd2, hO.grow, hro, hrw, hrF, hc1, hp1, hlaid1, by simpa [newD] using hw1⟩

/-- A disk that goes down with its l-th write. -/
structure BrkN (N : Nat) (D : DD) (l : Nat) : Prop where
  down : D.down = false
  left : D.left = l
  pos : 1 ≤ l
  len : D.firm.length = N
theorem app_brk {N x : Nat} {B : List UInt8} : ∀ (k i : Nat) (D : DD) (l : Nat), BrkN N D l → x + i + k ≤ N →
    (k < l → (appGo x B k i D).2 = 0) ∧ (l ≤ k → (appGo x B k i D).2 = 14 ∧ (appGo x B k i D).1.down = true) ∧ (appGo x B k i D).1.pend.length ≤ D.pend.length + k ∧ (appGo x B k i D).1.writes ≤ D.writes + k := by
  intro k
  induction k with
  | zero =>
    intro i D l hb _
    exact ⟨fun _ => rfl, fun h => by have := hb.pos; omega, by simp [appGo], by simp [appGo]⟩
  | succ k ih =>
    intro i D l hb hx
    have hok : okE D ((x + i : Nat) : Int) = 0 := by
      unfold okE; rw [hb.down, hb.len, if_neg (by simp), if_neg (by omega)]
    have hp := writeD_pend D ((x + i : Nat) : Int) (sealOf (partS B (need B.length) i))
    have hw := writeD_writes D ((x + i : Nat) : Int) (sealOf (partS B (need B.length) i))
    by_cases h1 : l = 1
    · have hwe : writeE D ((x + i : Nat) : Int) = 14 := by unfold writeE; rw [if_pos hok, hb.left, h1]; rfl
      rw [appGo, hwe, if_neg (by omega)]
      refine ⟨fun h => by omega, fun _ => ⟨rfl, ?_⟩, by simp only; omega, by simp only; omega⟩
      unfold writeD
      rw [if_pos hok, hb.left, h1]
      rfl
    · have hpos := hb.pos
      have hwe : writeE D ((x + i : Nat) : Int) = 0 := by unfold writeE; rw [if_pos hok, hb.left, if_neg (by omega)]
      rw [appGo, if_pos hwe]
      have hb2 : BrkN N (writeD D ((x + i : Nat) : Int) (sealOf (partS B (need B.length) i))) (l - 1) := by
        unfold writeD
        rw [if_pos hok]
        refine ⟨?_, ?_, by omega, hb.len⟩
        · simp only [hb.left, decide_eq_false_iff_not]; omega
        · simp only [hb.left]; rw [if_pos (by omega)]; omega
      obtain ⟨q1, q2, q3, q4⟩ := ih (i + 1) _ (l - 1) hb2 (by omega)
      exact ⟨fun h => q1 (by omega), fun h => q2 (by omega), by omega, by omega⟩
end Go.Proofs.Yticncfkpfpkfoaa
