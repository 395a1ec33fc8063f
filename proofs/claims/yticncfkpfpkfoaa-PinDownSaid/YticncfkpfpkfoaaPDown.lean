/- PinDown: the law. -/
import Derived.Test.YticncfkpfpkfoaaSim
import Derived.Test.YticncfkpfpkfoaaPinEH
import Derived.Test.YticncfkpfpkfoaaWPinD
set_option linter.unusedVariables false
set_option linter.unusedSimpArgs false
namespace Go.Proofs.Yticncfkpfpkfoaa
open Go

theorem pinDown_law {w : World} {p : PinP} : Ret P 17 #[pinV p] w fun x w' => x = .bool true ∧ Fr [] w w' := by
  refine F17ok ?_
  unfold F17
  obtain ⟨W, hW⟩ : ∃ W, W = nw w (pinL p) 87 := ⟨_, rfl⟩
  have fW : Fr [] w W := by rw [hW]; exact (Fr.refl [] w).nw _ _
  have hWm : mm W (sz w) = pinL p := by rw [hW]; simp [sM]
  have hWs : sz W = sz w + 1 := by rw [hW]; simp [sM]
  unfold pinL at hW
  have b25 : ∀ w, pBuild P 25 [] w = some (sec (zb 64), w) := fun w => by rw [bd25 (by simp)]; rfl
  try simp (maxDischargeDepth := 8) [↓sC, sB, sM, ← hW, b25, -bd25]
  refine speaks22.call ?_
  rintro _ w1 ⟨rfl, f1⟩
  have hnew1 : Ret P 27 #[i64 1] w1 _ := new_spec (w := w1) (n := 1) (by omega) (by omega)
  try simp (maxDischargeDepth := 8) [↓sC, sB, sM]
  refine hnew1.call ?_
  rintro _ w2 ⟨b1, F1, rfl, hd1, f2, hF1⟩
  have hnew2 : Ret P 27 #[i64 2] w2 _ := new_spec (w := w2) (n := 2) (by omega) (by omega)
  try simp (maxDischargeDepth := 8) [↓sC, sB, sM]
  refine hnew2.call ?_
  rintro _ w3 ⟨b2, F2, rfl, hd2, f3, hF2⟩
  have q3 : Fr [] W w3 := (f1.trans0 f2).trans0 f3
  have g3 := fW.trans0 q3
  have hF1' : ∀ k ∈ F1, sz w < k ∧ k < sz w2 := fun k hk => ⟨by have := hF1 k hk; have := f1.size; omega, hd1.ltP k hk⟩
  have hF2' : ∀ k ∈ F2, sz w2 ≤ k := fun k hk => hF2 k hk
  have hw2 := f2.size
  have hw1 := f1.size
  have m3 : mm w3 (sz w) = pinL p := by rw [q3.mm (by omega) (by simp), hWm]
  have s3 : sz w < sz w3 := q3.lt (by omega)
  try simp (maxDischargeDepth := 8) [↓sC, sB, sM]
  refine (break_spec (n := 1) hd2 (by omega)).call ?_
  rintro _ w4 ⟨hd4, f4⟩
  have hz : (zb 64).length = 64 := by simp
  try simp (maxDischargeDepth := 8) [↓sC, sB, sM]
  have hws := write_spec (x := (0 : Int)) (s := zb 64) hd4 hz (by simp [breakD, newD]) (by simp [breakD, newD])
  refine hws.call ?_
  rintro _ w5 ⟨rfl, F5, hd5, f5, hF5⟩
  obtain ⟨D5, hD5⟩ : ∃ D5, D5 = writeD (breakD (newD 2) 1) 0 (zb 64) := ⟨_, rfl⟩
  rw [← hD5] at hd5
  have hdn5 : D5.down = true := by rw [hD5]; rfl
  have hr5 : reachM D5 = 14 := by unfold reachM; rw [if_pos hdn5]
  have hp5 : D5.pend.length ≤ 1 := by rw [hD5]; exact Nat.le_refl 1
  have hw5 : D5.writes ≤ 1 := by rw [hD5]; exact Int.le_refl 1
  have hr1 : reachM (newD 1) = 1 := by unfold reachM; rw [if_neg (by simp [newD]), if_pos (by simp [newD])]
  have hd1' : IsD w5 b1 (newD 1) F1 := ((hd1.fr0 f3).fr f4 (fun k hk hk2 => by have := (hF1' k hk).2; have := hF2' k hk2; omega)).fr f5 (fun k hk hk2 => by have := (hF1' k hk).2; have := hF2' k hk2; omega)
  have hF5' : ∀ k ∈ F5, sz w2 ≤ k := fun k hk => by
    rcases hF5 k hk with h | h
    · exact hF2' k h
    · have := f4.size; have := f3.size; omega
  have g5 : Fr [] w w5 := (g3.trans f4 (fun k hk => .inr (by have := hF2' k hk; omega))).trans f5 (fun k hk => .inr (by have := hF2' k hk; omega))
  have m5 : mm w5 (sz w) = pinL p := by rw [f5.mm (f4.lt s3) (fun hk => by have := hF2' _ hk; omega), f4.mm s3 (fun hk => by have := hF2' _ hk; omega), m3]
  have s5 : sz w < sz w5 := f5.lt (f4.lt s3)
  try simp (maxDischargeDepth := 8) [↓sC, sB, sM]
  refine (get_bad hd1' (by rw [hr1]; omega)).call ?_
  rintro _ w6 ⟨rfl, f6⟩
  rw [hr1]
  obtain ⟨X, hX⟩ : ∃ X, X = wr (nw w6 (pinL zPin) 87) (sz w6) (pinL zPin) := ⟨_, rfl⟩
  have fX : Fr [] w6 X := by rw [hX]; exact ((Fr.refl [] w6).nw _ _).wr (.inr (Nat.le_refl _)) _
  have hstX : pStore P 87 (pt (sz w6) 0) (pinV zPin) (nw w6 [Value.int .i64 0, Value.int .i64 0, Value.int .i64 0, Value.int .i64 0, Value.int .i64 0, Value.int .i64 0] 87) = some X := by rw [hX]; exact pst87 (by simp [sM]) (by simp [sM])
  try simp (maxDischargeDepth := 8) [↓sC, sB, sM, hstX, -st87]
  have q6 := f6.trans0 fX
  refine (get_bad (hd5.fr0 q6) (by rw [hr5]; omega)).call ?_
  rintro _ w7 ⟨rfl, f7⟩
  rw [hr5]
  obtain ⟨Y, hY⟩ : ∃ Y, Y = wr (nw w7 (pinL zPin) 87) (sz w7) (pinL zPin) := ⟨_, rfl⟩
  have fY : Fr [] w7 Y := by rw [hY]; exact ((Fr.refl [] w7).nw _ _).wr (.inr (Nat.le_refl _)) _
  have hstY : pStore P 87 (pt (sz w7) 0) (pinV zPin) (nw w7 [Value.int .i64 0, Value.int .i64 0, Value.int .i64 0, Value.int .i64 0, Value.int .i64 0, Value.int .i64 0] 87) = some Y := by rw [hY]; exact pst87 (by simp [sM]) (by simp [sM])
  have q7 := (q6.trans0 f7).trans0 fY
  have m7 : mm Y (sz w) = pinL p := by rw [q7.mm s5 (by simp), m5]
  have s7 := q7.lt s5
  have hl7 : pLoad P 87 (pt (sz w) 0) Y = some (pinV p, Y) := pld87 m7
  try simp (maxDischargeDepth := 8) [↓sC, sB, sM, hstY, hl7, -st87, -ld87]
  refine (put_spec (p := p) (hd1'.fr0 q7) (by simp [newD]) (by simp [newD])).call ?_
  have hput1 : putM p (newD 1) = (newD 1, 1) := by unfold putM; rw [if_pos (by rw [hr1]; omega), hr1]
  have hput2 : putM p D5 = (D5, 14) := by unfold putM; rw [if_pos (by rw [hr5]; omega), hr5]
  rw [hput1]
  rintro _ w8 ⟨rfl, F8, hd8, hg8⟩
  have n1 : sz w ∉ F1 := fun hk => by have := (hF1' _ hk).1; omega
  have m8 : mm w8 (sz w) = pinL p := by rw [hg8.fr.mm s7 n1, m7]
  have hl8 : pLoad P 87 (pt (sz w) 0) w8 = some (pinV p, w8) := pld87 m8
  have hF5lt := hd5.ltP
  try simp (maxDischargeDepth := 8) [↓sC, sB, sM, hl8, -ld87]
  have hdis : ∀ k ∈ F5, k ∉ F1 := fun k hk hk2 => by have := hF5' k hk; have := (hF1' k hk2).2; omega
  refine (put_spec (p := p) ((hd5.fr0 q7).fr hg8.fr hdis) (by omega) (by omega)).call ?_
  rw [hput2]
  rintro _ w9 ⟨rfl, F9, hd9, hg9⟩
  try simp (maxDischargeDepth := 8) [↓sC, sB, sM]
  exact ((g5.trans0 q7).trans hg8.fr (fun k hk => .inr (by have := (hF1' k hk).1; omega))).trans hg9.fr (fun k hk => .inr (by have := hF5' k hk; omega))
end Go.Proofs.Yticncfkpfpkfoaa
