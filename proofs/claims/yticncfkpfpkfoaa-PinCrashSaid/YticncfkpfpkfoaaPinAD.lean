/- Pins: Check, of, reached. Printed by pina.py. -/
import Derived.Test.YticncfkpfpkfoaaSim
import Derived.Test.YticncfkpfpkfoaaPinM
import Derived.Test.YticncfkpfpkfoaaWPin
import Derived.Test.YticncfkpfpkfoaaPackW
import Derived.Test.YticncfkpfpkfoaaPackRd
import Derived.Test.YticncfkpfpkfoaaPackFF
set_option linter.unusedVariables false
set_option linter.unusedSimpArgs false
namespace Go.Proofs.Yticncfkpfpkfoaa
open Go

theorem pin_splice {p : PinP} {l : List Value} (h : l.length = 6) : splice l 0 (pinL p) = pinL p := splice_full (by rw [h]; rfl)
theorem check_spec {w : World} {p : PinP} : Ret P 58 #[pinV p] w fun v w' => v = i64 (if okPin p then 0 else 1) ∧ Fr [] w w' := by
  refine F58ok ?_
  unfold F58
  by_cases h0 : p.s < 1
  · rw [if_neg (fun h => by unfold okPin at h; omega)]
    have c0 : (p.s < 1) = True := eq_true h0
    try simp (maxDischargeDepth := 8) [↓sC, sB, sM, c0]
  have c0 : (p.s < 1) = False := eq_false h0
  by_cases h1 : 1099511627776 < p.s
  · rw [if_neg (fun h => by unfold okPin at h; omega)]
    have c1 : (1099511627776 < p.s) = True := eq_true h1
    try simp (maxDischargeDepth := 8) [↓sC, sB, sM, c0, c1]
  have c1 : (1099511627776 < p.s) = False := eq_false h1
  by_cases h2 : p.l < 0
  · rw [if_neg (fun h => by unfold okPin at h; omega)]
    have c2 : (p.l < 0) = True := eq_true h2
    try simp (maxDischargeDepth := 8) [↓sC, sB, sM, c0, c1, c2]
  have c2 : (p.l < 0) = False := eq_false h2
  by_cases h3 : 1099511627776 < p.l
  · rw [if_neg (fun h => by unfold okPin at h; omega)]
    have c3 : (1099511627776 < p.l) = True := eq_true h3
    try simp (maxDischargeDepth := 8) [↓sC, sB, sM, c0, c1, c2, c3]
  have c3 : (1099511627776 < p.l) = False := eq_false h3
  by_cases h4 : p.f < 0
  · rw [if_neg (fun h => by unfold okPin at h; omega)]
    have c4 : (p.f < 0) = True := eq_true h4
    try simp (maxDischargeDepth := 8) [↓sC, sB, sM, c0, c1, c2, c3, c4]
  have c4 : (p.f < 0) = False := eq_false h4
  by_cases h5 : 1 < p.f
  · rw [if_neg (fun h => by unfold okPin at h; omega)]
    have c5 : (1 < p.f) = True := eq_true h5
    try simp (maxDischargeDepth := 8) [↓sC, sB, sM, c0, c1, c2, c3, c4, c5]
  have c5 : (1 < p.f) = False := eq_false h5
  by_cases h6 : p.w < 0
  · rw [if_neg (fun h => by unfold okPin at h; omega)]
    have c6 : (p.w < 0) = True := eq_true h6
    try simp (maxDischargeDepth := 8) [↓sC, sB, sM, c0, c1, c2, c3, c4, c5, c6]
  have c6 : (p.w < 0) = False := eq_false h6
  by_cases h7 : 1 < p.w
  · rw [if_neg (fun h => by unfold okPin at h; omega)]
    have c7 : (1 < p.w) = True := eq_true h7
    try simp (maxDischargeDepth := 8) [↓sC, sB, sM, c0, c1, c2, c3, c4, c5, c6, c7]
  have c7 : (1 < p.w) = False := eq_false h7
  by_cases h8 : p.r < 1
  · rw [if_neg (fun h => by unfold okPin at h; omega)]
    have c8 : (p.r < 1) = True := eq_true h8
    try simp (maxDischargeDepth := 8) [↓sC, sB, sM, c0, c1, c2, c3, c4, c5, c6, c7, c8]
  have c8 : (p.r < 1) = False := eq_false h8
  by_cases h9 : 4096 < p.r
  · rw [if_neg (fun h => by unfold okPin at h; omega)]
    have c9 : (4096 < p.r) = True := eq_true h9
    try simp (maxDischargeDepth := 8) [↓sC, sB, sM, c0, c1, c2, c3, c4, c5, c6, c7, c8, c9]
  have c9 : (4096 < p.r) = False := eq_false h9
  by_cases h10 : p.c < 0
  · rw [if_neg (fun h => by unfold okPin at h; omega)]
    have c10 : (p.c < 0) = True := eq_true h10
    try simp (maxDischargeDepth := 8) [↓sC, sB, sM, c0, c1, c2, c3, c4, c5, c6, c7, c8, c9, c10]
  have c10 : (p.c < 0) = False := eq_false h10
  by_cases h11 : p.r < p.c
  · rw [if_neg (fun h => by unfold okPin at h; omega)]
    have c11 : (p.r < p.c) = True := eq_true h11
    try simp (maxDischargeDepth := 8) [↓sC, sB, sM, c0, c1, c2, c3, c4, c5, c6, c7, c8, c9, c10, c11]
  have c11 : (p.r < p.c) = False := eq_false h11
  rw [if_pos (by unfold okPin; omega)]
  try simp (maxDischargeDepth := 8) [↓sC, sB, sM, c0, c1, c2, c3, c4, c5, c6, c7, c8, c9, c10, c11]
theorem refCheck_spec {w : World} {p : PinP} : Ret P 62 #[pinV p] w fun v w' => v = .bool (decide (okPin p)) ∧ Fr [] w w' := by
  refine F62ok ?_
  unfold F62
  by_cases h0 : p.s < 1
  · rw [show decide (okPin p) = false from decide_eq_false (fun h => by unfold okPin at h; omega)]
    have c0 : (p.s < 1) = True := eq_true h0
    try simp (maxDischargeDepth := 8) [↓sC, sB, sM, c0]
  have c0 : (p.s < 1) = False := eq_false h0
  by_cases h1 : 1099511627776 < p.s
  · rw [show decide (okPin p) = false from decide_eq_false (fun h => by unfold okPin at h; omega)]
    have c1 : (1099511627776 < p.s) = True := eq_true h1
    try simp (maxDischargeDepth := 8) [↓sC, sB, sM, c0, c1]
  have c1 : (1099511627776 < p.s) = False := eq_false h1
  by_cases h2 : p.l < 0
  · rw [show decide (okPin p) = false from decide_eq_false (fun h => by unfold okPin at h; omega)]
    have c2 : (p.l < 0) = True := eq_true h2
    try simp (maxDischargeDepth := 8) [↓sC, sB, sM, c0, c1, c2]
  have c2 : (p.l < 0) = False := eq_false h2
  by_cases h3 : 1099511627776 < p.l
  · rw [show decide (okPin p) = false from decide_eq_false (fun h => by unfold okPin at h; omega)]
    have c3 : (1099511627776 < p.l) = True := eq_true h3
    try simp (maxDischargeDepth := 8) [↓sC, sB, sM, c0, c1, c2, c3]
  have c3 : (1099511627776 < p.l) = False := eq_false h3
  have hfw : (p.f = 0 ∨ p.f = 1) ∧ (p.w = 0 ∨ p.w = 1) ∨ (¬ p.f = 0 ∧ ¬ p.f = 1) ∨ (p.f = 0 ∨ p.f = 1) ∧ (¬ p.w = 0 ∧ ¬ p.w = 1) := by omega
  have rest : ∀ {q : Prop}, (1 ≤ p.r ∧ p.r ≤ 4096 ∧ 0 ≤ p.c ∧ p.c ≤ p.r → q) → (¬ 1 ≤ p.r → q) → (1 ≤ p.r → ¬ p.r ≤ 4096 → q) → (1 ≤ p.r → p.r ≤ 4096 → ¬ 0 ≤ p.c → q) → (1 ≤ p.r → p.r ≤ 4096 → 0 ≤ p.c → ¬ p.c ≤ p.r → q) → q := fun k0 k1 k2 k3 k4 => by
    by_cases r1 : 1 ≤ p.r
    · by_cases r2 : p.r ≤ 4096
      · by_cases r3 : 0 ≤ p.c
        · by_cases r4 : p.c ≤ p.r
          · exact k0 ⟨r1, r2, r3, r4⟩
          · exact k4 r1 r2 r3 r4
        · exact k3 r1 r2 r3
      · exact k2 r1 r2
    · exact k1 r1
  rcases hfw with ⟨hf, hw⟩ | ⟨hf0, hf1⟩ | ⟨hf, hw0, hw1⟩
  · rcases hf with hf | hf <;> rcases hw with hw | hw
    ·
      refine rest ?_ ?_ ?_ ?_ ?_
      · rintro ⟨r1, r2, r3, r4⟩
        have e0 : (p.f = 0) = True := eq_true (by omega)
        have g0 : (p.w = 0) = True := eq_true (by omega)
        have d1 : (1 ≤ p.r) = True := eq_true (by omega)
        have d2 : (p.r ≤ 4096) = True := eq_true (by omega)
        have d3 : (0 ≤ p.c) = True := eq_true (by omega)
        have d4 : (p.c ≤ p.r) = True := eq_true (by omega)
        rw [show decide (okPin p) = true from decide_eq_true (by unfold okPin; omega)]
        try simp (maxDischargeDepth := 8) [↓sC, sB, sM, c0, c1, c2, c3, e0, g0, d1, d2, d3, d4]
      · intro r1
        have e0 : (p.f = 0) = True := eq_true (by omega)
        have g0 : (p.w = 0) = True := eq_true (by omega)
        have d1 : (1 ≤ p.r) = False := eq_false (by omega)
        rw [show decide (okPin p) = false from decide_eq_false (fun h => by unfold okPin at h; omega)]
        try simp (maxDischargeDepth := 8) [↓sC, sB, sM, c0, c1, c2, c3, e0, g0, d1]
      · intro r1 r2
        have e0 : (p.f = 0) = True := eq_true (by omega)
        have g0 : (p.w = 0) = True := eq_true (by omega)
        have d1 : (1 ≤ p.r) = True := eq_true (by omega)
        have d2 : (p.r ≤ 4096) = False := eq_false (by omega)
        rw [show decide (okPin p) = false from decide_eq_false (fun h => by unfold okPin at h; omega)]
        try simp (maxDischargeDepth := 8) [↓sC, sB, sM, c0, c1, c2, c3, e0, g0, d1, d2]
      · intro r1 r2 r3
        have e0 : (p.f = 0) = True := eq_true (by omega)
        have g0 : (p.w = 0) = True := eq_true (by omega)
        have d1 : (1 ≤ p.r) = True := eq_true (by omega)
        have d2 : (p.r ≤ 4096) = True := eq_true (by omega)
        have d3 : (0 ≤ p.c) = False := eq_false (by omega)
        rw [show decide (okPin p) = false from decide_eq_false (fun h => by unfold okPin at h; omega)]
        try simp (maxDischargeDepth := 8) [↓sC, sB, sM, c0, c1, c2, c3, e0, g0, d1, d2, d3]
      · intro r1 r2 r3 r4
        have e0 : (p.f = 0) = True := eq_true (by omega)
        have g0 : (p.w = 0) = True := eq_true (by omega)
        have d1 : (1 ≤ p.r) = True := eq_true (by omega)
        have d2 : (p.r ≤ 4096) = True := eq_true (by omega)
        have d3 : (0 ≤ p.c) = True := eq_true (by omega)
        have d4 : (p.c ≤ p.r) = False := eq_false (by omega)
        rw [show decide (okPin p) = false from decide_eq_false (fun h => by unfold okPin at h; omega)]
        try simp (maxDischargeDepth := 8) [↓sC, sB, sM, c0, c1, c2, c3, e0, g0, d1, d2, d3, d4]
    ·
      refine rest ?_ ?_ ?_ ?_ ?_
      · rintro ⟨r1, r2, r3, r4⟩
        have e0 : (p.f = 0) = True := eq_true (by omega)
        have g0 : (p.w = 0) = False := eq_false (by omega)
        have g1 : (p.w = 1) = True := eq_true (by omega)
        have d1 : (1 ≤ p.r) = True := eq_true (by omega)
        have d2 : (p.r ≤ 4096) = True := eq_true (by omega)
        have d3 : (0 ≤ p.c) = True := eq_true (by omega)
        have d4 : (p.c ≤ p.r) = True := eq_true (by omega)
        rw [show decide (okPin p) = true from decide_eq_true (by unfold okPin; omega)]
        try simp (maxDischargeDepth := 8) [↓sC, sB, sM, c0, c1, c2, c3, e0, g0, g1, d1, d2, d3, d4]
      · intro r1
        have e0 : (p.f = 0) = True := eq_true (by omega)
        have g0 : (p.w = 0) = False := eq_false (by omega)
        have g1 : (p.w = 1) = True := eq_true (by omega)
        have d1 : (1 ≤ p.r) = False := eq_false (by omega)
        rw [show decide (okPin p) = false from decide_eq_false (fun h => by unfold okPin at h; omega)]
        try simp (maxDischargeDepth := 8) [↓sC, sB, sM, c0, c1, c2, c3, e0, g0, g1, d1]
      · intro r1 r2
        have e0 : (p.f = 0) = True := eq_true (by omega)
        have g0 : (p.w = 0) = False := eq_false (by omega)
        have g1 : (p.w = 1) = True := eq_true (by omega)
        have d1 : (1 ≤ p.r) = True := eq_true (by omega)
        have d2 : (p.r ≤ 4096) = False := eq_false (by omega)
        rw [show decide (okPin p) = false from decide_eq_false (fun h => by unfold okPin at h; omega)]
        try simp (maxDischargeDepth := 8) [↓sC, sB, sM, c0, c1, c2, c3, e0, g0, g1, d1, d2]
      · intro r1 r2 r3
        have e0 : (p.f = 0) = True := eq_true (by omega)
        have g0 : (p.w = 0) = False := eq_false (by omega)
        have g1 : (p.w = 1) = True := eq_true (by omega)
        have d1 : (1 ≤ p.r) = True := eq_true (by omega)
        have d2 : (p.r ≤ 4096) = True := eq_true (by omega)
        have d3 : (0 ≤ p.c) = False := eq_false (by omega)
        rw [show decide (okPin p) = false from decide_eq_false (fun h => by unfold okPin at h; omega)]
        try simp (maxDischargeDepth := 8) [↓sC, sB, sM, c0, c1, c2, c3, e0, g0, g1, d1, d2, d3]
      · intro r1 r2 r3 r4
        have e0 : (p.f = 0) = True := eq_true (by omega)
        have g0 : (p.w = 0) = False := eq_false (by omega)
        have g1 : (p.w = 1) = True := eq_true (by omega)
        have d1 : (1 ≤ p.r) = True := eq_true (by omega)
        have d2 : (p.r ≤ 4096) = True := eq_true (by omega)
        have d3 : (0 ≤ p.c) = True := eq_true (by omega)
        have d4 : (p.c ≤ p.r) = False := eq_false (by omega)
        rw [show decide (okPin p) = false from decide_eq_false (fun h => by unfold okPin at h; omega)]
        try simp (maxDischargeDepth := 8) [↓sC, sB, sM, c0, c1, c2, c3, e0, g0, g1, d1, d2, d3, d4]
    ·
      refine rest ?_ ?_ ?_ ?_ ?_
      · rintro ⟨r1, r2, r3, r4⟩
        have e0 : (p.f = 0) = False := eq_false (by omega)
        have e1 : (p.f = 1) = True := eq_true (by omega)
        have g0 : (p.w = 0) = True := eq_true (by omega)
        have d1 : (1 ≤ p.r) = True := eq_true (by omega)
        have d2 : (p.r ≤ 4096) = True := eq_true (by omega)
        have d3 : (0 ≤ p.c) = True := eq_true (by omega)
        have d4 : (p.c ≤ p.r) = True := eq_true (by omega)
        rw [show decide (okPin p) = true from decide_eq_true (by unfold okPin; omega)]
        try simp (maxDischargeDepth := 8) [↓sC, sB, sM, c0, c1, c2, c3, e0, e1, g0, d1, d2, d3, d4]
      · intro r1
        have e0 : (p.f = 0) = False := eq_false (by omega)
        have e1 : (p.f = 1) = True := eq_true (by omega)
        have g0 : (p.w = 0) = True := eq_true (by omega)
        have d1 : (1 ≤ p.r) = False := eq_false (by omega)
        rw [show decide (okPin p) = false from decide_eq_false (fun h => by unfold okPin at h; omega)]
        try simp (maxDischargeDepth := 8) [↓sC, sB, sM, c0, c1, c2, c3, e0, e1, g0, d1]
      · intro r1 r2
        have e0 : (p.f = 0) = False := eq_false (by omega)
        have e1 : (p.f = 1) = True := eq_true (by omega)
        have g0 : (p.w = 0) = True := eq_true (by omega)
        have d1 : (1 ≤ p.r) = True := eq_true (by omega)
        have d2 : (p.r ≤ 4096) = False := eq_false (by omega)
        rw [show decide (okPin p) = false from decide_eq_false (fun h => by unfold okPin at h; omega)]
        try simp (maxDischargeDepth := 8) [↓sC, sB, sM, c0, c1, c2, c3, e0, e1, g0, d1, d2]
      · intro r1 r2 r3
        have e0 : (p.f = 0) = False := eq_false (by omega)
        have e1 : (p.f = 1) = True := eq_true (by omega)
        have g0 : (p.w = 0) = True := eq_true (by omega)
        have d1 : (1 ≤ p.r) = True := eq_true (by omega)
        have d2 : (p.r ≤ 4096) = True := eq_true (by omega)
        have d3 : (0 ≤ p.c) = False := eq_false (by omega)
        rw [show decide (okPin p) = false from decide_eq_false (fun h => by unfold okPin at h; omega)]
        try simp (maxDischargeDepth := 8) [↓sC, sB, sM, c0, c1, c2, c3, e0, e1, g0, d1, d2, d3]
      · intro r1 r2 r3 r4
        have e0 : (p.f = 0) = False := eq_false (by omega)
        have e1 : (p.f = 1) = True := eq_true (by omega)
        have g0 : (p.w = 0) = True := eq_true (by omega)
        have d1 : (1 ≤ p.r) = True := eq_true (by omega)
        have d2 : (p.r ≤ 4096) = True := eq_true (by omega)
        have d3 : (0 ≤ p.c) = True := eq_true (by omega)
        have d4 : (p.c ≤ p.r) = False := eq_false (by omega)
        rw [show decide (okPin p) = false from decide_eq_false (fun h => by unfold okPin at h; omega)]
        try simp (maxDischargeDepth := 8) [↓sC, sB, sM, c0, c1, c2, c3, e0, e1, g0, d1, d2, d3, d4]
    ·
      refine rest ?_ ?_ ?_ ?_ ?_
      · rintro ⟨r1, r2, r3, r4⟩
        have e0 : (p.f = 0) = False := eq_false (by omega)
        have e1 : (p.f = 1) = True := eq_true (by omega)
        have g0 : (p.w = 0) = False := eq_false (by omega)
        have g1 : (p.w = 1) = True := eq_true (by omega)
        have d1 : (1 ≤ p.r) = True := eq_true (by omega)
        have d2 : (p.r ≤ 4096) = True := eq_true (by omega)
        have d3 : (0 ≤ p.c) = True := eq_true (by omega)
        have d4 : (p.c ≤ p.r) = True := eq_true (by omega)
        rw [show decide (okPin p) = true from decide_eq_true (by unfold okPin; omega)]
        try simp (maxDischargeDepth := 8) [↓sC, sB, sM, c0, c1, c2, c3, e0, e1, g0, g1, d1, d2, d3, d4]
      · intro r1
        have e0 : (p.f = 0) = False := eq_false (by omega)
        have e1 : (p.f = 1) = True := eq_true (by omega)
        have g0 : (p.w = 0) = False := eq_false (by omega)
        have g1 : (p.w = 1) = True := eq_true (by omega)
        have d1 : (1 ≤ p.r) = False := eq_false (by omega)
        rw [show decide (okPin p) = false from decide_eq_false (fun h => by unfold okPin at h; omega)]
        try simp (maxDischargeDepth := 8) [↓sC, sB, sM, c0, c1, c2, c3, e0, e1, g0, g1, d1]
      · intro r1 r2
        have e0 : (p.f = 0) = False := eq_false (by omega)
        have e1 : (p.f = 1) = True := eq_true (by omega)
        have g0 : (p.w = 0) = False := eq_false (by omega)
        have g1 : (p.w = 1) = True := eq_true (by omega)
        have d1 : (1 ≤ p.r) = True := eq_true (by omega)
        have d2 : (p.r ≤ 4096) = False := eq_false (by omega)
        rw [show decide (okPin p) = false from decide_eq_false (fun h => by unfold okPin at h; omega)]
        try simp (maxDischargeDepth := 8) [↓sC, sB, sM, c0, c1, c2, c3, e0, e1, g0, g1, d1, d2]
      · intro r1 r2 r3
        have e0 : (p.f = 0) = False := eq_false (by omega)
        have e1 : (p.f = 1) = True := eq_true (by omega)
        have g0 : (p.w = 0) = False := eq_false (by omega)
        have g1 : (p.w = 1) = True := eq_true (by omega)
        have d1 : (1 ≤ p.r) = True := eq_true (by omega)
        have d2 : (p.r ≤ 4096) = True := eq_true (by omega)
        have d3 : (0 ≤ p.c) = False := eq_false (by omega)
        rw [show decide (okPin p) = false from decide_eq_false (fun h => by unfold okPin at h; omega)]
        try simp (maxDischargeDepth := 8) [↓sC, sB, sM, c0, c1, c2, c3, e0, e1, g0, g1, d1, d2, d3]
      · intro r1 r2 r3 r4
        have e0 : (p.f = 0) = False := eq_false (by omega)
        have e1 : (p.f = 1) = True := eq_true (by omega)
        have g0 : (p.w = 0) = False := eq_false (by omega)
        have g1 : (p.w = 1) = True := eq_true (by omega)
        have d1 : (1 ≤ p.r) = True := eq_true (by omega)
        have d2 : (p.r ≤ 4096) = True := eq_true (by omega)
        have d3 : (0 ≤ p.c) = True := eq_true (by omega)
        have d4 : (p.c ≤ p.r) = False := eq_false (by omega)
        rw [show decide (okPin p) = false from decide_eq_false (fun h => by unfold okPin at h; omega)]
        try simp (maxDischargeDepth := 8) [↓sC, sB, sM, c0, c1, c2, c3, e0, e1, g0, g1, d1, d2, d3, d4]
  ·
    have e0 : (p.f = 0) = False := eq_false (by omega)
    have e1 : (p.f = 1) = False := eq_false (by omega)
    rw [show decide (okPin p) = false from decide_eq_false (fun h => by unfold okPin at h; omega)]
    try simp (maxDischargeDepth := 8) [↓sC, sB, sM, c0, c1, c2, c3, e0, e1]
  · rcases hf with hf | hf
    ·
      have e0 : (p.f = 0) = True := eq_true (by omega)
      have g0 : (p.w = 0) = False := eq_false (by omega)
      have g1 : (p.w = 1) = False := eq_false (by omega)
      rw [show decide (okPin p) = false from decide_eq_false (fun h => by unfold okPin at h; omega)]
      try simp (maxDischargeDepth := 8) [↓sC, sB, sM, c0, c1, c2, c3, e0, g0, g1]
    ·
      have e0 : (p.f = 0) = False := eq_false (by omega)
      have e1 : (p.f = 1) = True := eq_true (by omega)
      have g0 : (p.w = 0) = False := eq_false (by omega)
      have g1 : (p.w = 1) = False := eq_false (by omega)
      rw [show decide (okPin p) = false from decide_eq_false (fun h => by unfold okPin at h; omega)]
      try simp (maxDischargeDepth := 8) [↓sC, sB, sM, c0, c1, c2, c3, e0, e1, g0, g1]
theorem of22_spec {w : World} {p : PinP} : Ret P 63 #[pinV p] w fun v w' => v = pinV p ∧ Fr [] w w' := by
  refine F63ok ?_
  unfold F63
  try simp (maxDischargeDepth := 8) [↓sC, sB, sM, splice]
theorem reached_spec {w : World} {b : Nat} {D : DD} {F : List Nat} (h : IsD w b D F) : Ret P 75 #[pt b 0] w fun v w' => v = i64 (reachM D) ∧ Fr [] w w' := by
  refine F75ok ?_
  unfold F75 reachM
  refine (down_spec h).call ?_
  rintro _ w1 ⟨rfl, f1⟩
  cases hd : D.down with
  | true =>
    try simp (maxDischargeDepth := 8) [↓sC, sB, sM]
    exact f1
  | false =>
    try simp (maxDischargeDepth := 8) [↓sC, sB, sM]
    refine (len_spec (h.fr0 f1)).call ?_
    rintro _ w2 ⟨rfl, f2⟩
    by_cases hl : D.firm.length < 2
    · have c1 : (D.firm.length < 2) = True := eq_true hl
      have c2 : ((D.firm.length : Int) < 2) = True := eq_true (by omega)
      try simp (maxDischargeDepth := 8) [↓sC, sB, sM, c1, c2]
      exact f1.trans0 f2
    · have c1 : (D.firm.length < 2) = False := eq_false hl
      have c2 : ((D.firm.length : Int) < 2) = False := eq_false (by omega)
      try simp (maxDischargeDepth := 8) [↓sC, sB, sM, c1, c2]
      exact ⟨by omega, f1.trans0 f2⟩
end Go.Proofs.Yticncfkpfpkfoaa

set_option linter.unusedVariables false
set_option linter.unusedSimpArgs false
namespace Go.Proofs.Yticncfkpfpkfoaa
open Go

def WtI (w : World) (p : PinP) (b ib : Nat) (m : Nat) (e : Env) (w' : World) : Prop :=
  ∃ (j : Nat) (F : List Nat), m = 6 - j ∧ j ≤ 6 ∧ IsW w' b (encAll ((pinParts p).take j)) F ∧ Own w w' F ∧ mm w' ib = pinL p ∧ ib < sz w' ∧ ib ∉ F ∧ e 3 = pt b 0 ∧ e 18 = sl ib 0 6 6 ∧ e 19 = i64 6 ∧ e 20 = i64 j
theorem encAll_tk {L : List PartP} {j : Nat} {p : PartP} (h : L[j]? = some p) : encAll (L.take (j + 1)) = encAll (L.take j) ++ encP p := by
  rw [List.take_add_one, h]; exact encAll_snoc _ _
theorem encAll_tk_le (L : List PartP) (j : Nat) : (encAll (L.take j)).length ≤ (encAll L).length := by
  have : encAll L = encAll (L.take j) ++ encAll (L.drop j) := by
    unfold encAll
    rw [← List.flatten_append, ← List.map_append, List.take_append_drop]
  rw [this, List.length_append]; omega
theorem pin_bound {p : PinP} (h : okPin p) : ∀ n ∈ pinNs p, 0 ≤ n ∧ n ≤ 1099511627776 := by
  obtain ⟨h1, h2, h3, h4, h5, h6, h7, h8, h9, h10, h11, h12⟩ := h
  intro n hn
  simp only [pinNs, List.mem_cons, List.not_mem_nil, or_false] at hn
  omega
theorem pinL_eq (p : PinP) : pinL p = (pinNs p).map (Value.int .i64) := rfl
theorem written_spec {w : World} {p : PinP} (h : okPin p) : Ret P 76 #[pinV p] w fun v w' => w'.ownsRow (sz w) 5 1 v (pinB p).length (bs (pinB p)) ∧ Fr [] w w' := by
  refine F76ok ?_
  unfold F76
  have hb43 : ∀ w, pBuildSlice P 43 6 [(0, i64 p.s), (1, i64 p.l), (2, i64 p.f), (3, i64 p.c), (4, i64 p.w), (5, i64 p.r)] w = some (sl (sz w) 0 6 6, nw w (pinL p) 3) := fun w => by
    rw [bsl43 (by omega) (by simp)]; rfl
  have hlen := pinB_len h
  try simp (maxDischargeDepth := 8) [↓sC, sB, sM, hb43, -bsl43]
  obtain ⟨X, hX⟩ : ∃ X, X = nw (nw (nw w (pinL p) 87) [Value.slice none 0 0] 137) (pinL p) 3 := ⟨_, rfl⟩
  have fX : Fr [] w X := by rw [hX]; exact (((Fr.refl [] w).nw _ _).nw _ _).nw _ _
  have hXs : sz X = sz w + 3 := by rw [hX]; simp [sM]
  have hX1 : mm X (sz w + 1) = [Value.slice none 0 0] := by rw [hX]; simp [sM]
  have hX1z : fz X (sz w + 1) = false := by rw [hX]; simp [sM]
  have hX2 : mm X (sz w + 2) = pinL p := by rw [hX]; simp [sM]
  have hw0 : IsW X (sz w + 1) [] [sz w + 1] := ⟨.slice none 0 0, hX1, hX1z, World.ownsRow_nil _ _ _ _, by simp [Value.ownBlock], by simp, by simp; omega⟩
  have hO0 : Own w X [sz w + 1] := ⟨fX, by simp⟩
  have hs2 : sz w + 2 < sz X := by omega
  subst hX
  refine loopE_of (WtI w p (sz w + 1) (sz w + 2)) 6 ⟨0, [sz w + 1], by omega, by omega, hw0, hO0, hX2, hs2, by simp, by simp [put_get, argE_get], by simp [put_get], by simp [put_get], by simp [put_get]⟩ ?_
  rintro m e w1 hI
  obtain ⟨j, F, hm, hj, hw, hO, hmi, hil, hiF, e3, e18, e19, e20⟩ := hI
  subst hm
  unfold F76B0
  by_cases hjl : j < 6
  · have t1 : (j < 6) = True := eq_true hjl
    have t2 : ((j : Int) < 6) = True := eq_true (by omega)
    obtain ⟨n, hn⟩ : ∃ n, (pinNs p)[j]? = some n := ⟨_, List.getElem?_eq_getElem (by show j < 6; exact hjl)⟩
    obtain ⟨n0, n1⟩ := pin_bound h n (List.mem_of_getElem? hn)
    obtain ⟨k, rfl⟩ : ∃ k : Nat, n = k := ⟨n.toNat, by omega⟩
    have hpart : (pinParts p)[j]? = some (uPart k) := by unfold pinParts; rw [List.getElem?_map, hn]; rfl
    have hgl : (mm w1 (sz w + 2)).length = 6 := by rw [hmi]; rfl
    have hg : gt (mm w1 (sz w + 2)) j = i64 k := by
      rw [hmi, pinL_eq]
      unfold gt
      rw [List.getD_eq_getElem?_getD, List.getElem?_map, hn]
      rfl
    have hia : ∀ w', pIndexAddr P 43 (sl (sz w + 2) 0 6 6) (i64 j) w' = some (pt (sz w + 2) j, w') := fun w' => by
      have := ia43 (w := w') (b := sz w + 2) (o := 0) (n := 6) (c := 6) (k := .i64) (j := (j : Int)) (by omega) (by omega)
      rw [this]; simp
    have hld : pLoad P 3 (pt (sz w + 2) j) w1 = some (i64 k, w1) := by rw [ld3 (by omega), hg]
    have hcv : ∀ w', pConv P 3 132 (i64 (k : Int)) w' = some (u64 k, w') := fun w' => by
      rw [pConv_int (k := .i64) (k' := .u64) tyOk3 intK132]
      have : IntKind.u64.wrap (k : Int) = (k : Int) := wrapu (by rw [H63x2]; omega)
      rw [this]
    have hwj : IntKind.i64.wrap ((j : Int) + 1) = ((j + 1 : Nat) : Int) := wrap64 (by omega) (by omega)
    have hle := encAll_tk_le (pinParts p) (j + 1)
    rw [encAll_tk hpart, List.length_append, encP_u] at hle
    have hpb : (encAll (pinParts p)).length = (pinB p).length := rfl
    try simp (maxDischargeDepth := 8) [↓sC, sB, sM, e3, e18, e19, e20, t1, t2, hia, hld, hcv, -ld3, -ia43]
    refine (wU_spec hw (n := k) (by rw [H63x2]; omega) (by omega)).call ?_
    rintro _ w2 ⟨rfl, F2, hm2⟩
    try simp (maxDischargeDepth := 8) [↓sC, sB, sM, e20, hwj, -Int.natCast_add]
    have hiF2 : sz w + 2 ∉ F2 := fun hk => by
      rcases hm2.new _ hk with h | h
      · exact hiF h
      · omega
    exact ⟨6 - (j + 1), by omega, j + 1, F2, rfl, by omega, by rw [encAll_tk hpart, encP_u]; exact hm2.is, hO.step hm2.fr hm2.new, by rw [hm2.fr.mm hil hiF, hmi], hm2.fr.lt hil, hiF2, by simp [put_get, e3], by simp [put_get, e18], by simp [put_get, e19], by simp [put_get]⟩
  · have hje : j = 6 := by omega
    subst hje
    try simp (maxDischargeDepth := 8) [↓sC, sB, sM, e3, e19, e20]
    have htk : (pinParts p).take 6 = pinParts p := rfl
    rw [htk] at hw
    refine (wBytes_spec hw (by show (pinB p).length ≤ _; omega)).call ?_
    rintro v2 w2 ⟨hown, hf⟩
    try simp (maxDischargeDepth := 8) [↓sC, sB, sM]
    exact ⟨own_base hown hO.fr.size, hO.fr.trans0 hf⟩
end Go.Proofs.Yticncfkpfpkfoaa

set_option linter.unusedVariables false
set_option linter.unusedSimpArgs false
namespace Go.Proofs.Yticncfkpfpkfoaa
open Go

def PinR (o : Option PinP) (x : Value) : Prop := ∃ q b, x = .tuple #[pinV q, .bool b] ∧ o = if b = true then some q else none
theorem readGo_full (most : Int) : ∀ (K l : List UInt8) (k : Nat) (acc : List PartP), (readGo most K l k acc).2.1 = 0 → (readGo most K l k acc).1.length = acc.length + K.length := by
  intro K
  induction K with
  | nil =>
    intro l k acc h
    unfold readGo at h ⊢
    split at h
    · simp at h
    · rename_i hl; rw [if_neg hl]; simp
  | cons c cs ih =>
    intro l k acc h
    rw [readGo] at h ⊢
    split at h
    · rename_i hc; exact absurd h hc
    · rename_i hl
      rw [if_neg hl, ih _ _ _ h]
      simp; omega
theorem readM_full (B K : List UInt8) (most : Int) (h : (readM B K most).2.1 = 0) : (readM B K most).1.length = K.length := by
  have := readGo_full most K B 0 [] h
  rw [List.length_nil, Nat.zero_add] at this
  exact this
def nbL (us : List Nat) (j : Nat) : List Value := (us.take j ++ List.replicate (6 - j) 0).map fun n : Nat => i64 (n : Int)
theorem nbL_len {us : List Nat} (h : us.length = 6) {j : Nat} (hj : j ≤ 6) : (nbL us j).length = 6 := by
  unfold nbL; rw [List.length_map, List.length_append, List.length_take, List.length_replicate]; omega
theorem nbL_set {us : List Nat} {j u : Nat} (h : us.length = 6) (hj : j < 6) (hu : us[j]? = some u) : (nbL us j).set j (i64 (u : Int)) = nbL us (j + 1) := by
  unfold nbL
  have hl : (us.take j).length = j := by rw [List.length_take]; omega
  have h1 : List.replicate (6 - j) 0 = (0 : Nat) :: List.replicate (6 - (j + 1)) 0 := by rw [show 6 - j = (6 - (j + 1)) + 1 by omega]; rfl
  have h2 : us.take (j + 1) = us.take j ++ [u] := by rw [List.take_add_one, hu]; rfl
  rw [h1, h2, List.map_append, List.map_append, List.map_append, List.map_cons, List.set_append, List.length_map, hl, if_neg (by omega), Nat.sub_self]
  simp
theorem list6 {α : Type} {l : List α} (h : l.length = 6) : ∃ a b c d e f, l = [a, b, c, d, e, f] := by
  match l, h with
  | [a, b, c, d, e, f], _ => exact ⟨a, b, c, d, e, f, rfl⟩

theorem pinL_len (p : PinP) : (pinL p).length = 6 := rfl
theorem sp6 {l : List Value} {a b c d e f : Value} (h : l.length = 6) : splice l 0 [a, b, c, d, e, f] = [a, b, c, d, e, f] := splice_full (by rw [h]; rfl)
theorem pld87 {w : World} {b : Nat} {p : PinP} (h : mm w b = pinL p) : pLoad P 87 (pt b 0) w = some (pinV p, w) := by
  rw [ld87 (by rw [h]; exact Nat.le_refl 6), h]; rfl
theorem pst87 {w : World} {b : Nat} {p : PinP} (h : (mm w b).length = 6) (hz : fz w b = false) : pStore P 87 (pt b 0) (pinV p) w = some (wr w b (pinL p)) := by
  rw [st87 (by rfl) (by simp) hz (by rw [h]; exact Nat.le_refl 6), sp6 h]; rfl
theorem pld93 {w : World} {b : Nat} {p : PinP} (h : mm w b = pinL p) : pLoad P 93 (pt b 0) w = some (pinV p, w) := by
  rw [ld93 (by rw [h]; exact Nat.le_refl 6), h]; rfl
theorem pst93 {w : World} {b : Nat} {p : PinP} (h : (mm w b).length = 6) (hz : fz w b = false) : pStore P 93 (pt b 0) (pinV p) w = some (wr w b (pinL p)) := by
  rw [st93 (by rfl) (by simp) hz (by rw [h]; exact Nat.le_refl 6), sp6 h]; rfl

def RpI (w0 : World) (res nb : Nat) (ov : Value) (L : List PartP) (m : Nat) (e : Env) (w' : World) : Prop :=
  ∃ j : Nat, m = 6 - j ∧ j ≤ 6 ∧ Fr [res, nb] w0 w' ∧ mm w' res = pinL zPin ∧ fz w' res = false ∧ mm w' nb = nbL (L.map (·.u)) j ∧ fz w' nb = false ∧ (∀ q ∈ L.take j, q.u ≤ 1099511627776) ∧
    e 2 = pt res 0 ∧ e 6 = pt nb 0 ∧ e 19 = ov ∧ e 20 = i64 6 ∧ e 21 = i64 j
theorem pinRead_spec {w : World} {v : Value} {B : List UInt8} (hv : RdV w v B.length (bs B)) : Ret P 77 #[v] w fun x w' => PinR (readP B) x ∧ Fr [] w w' := by
  refine F77ok ?_
  unfold F77
  obtain ⟨W, hW⟩ : ∃ W, W = nw w (pinL zPin) 87 := ⟨_, rfl⟩
  have fW : Fr [] w W := by rw [hW]; exact (Fr.refl [] w).nw _ _
  have hWm : mm W (sz w) = pinL zPin := by rw [hW]; simp [sM]
  have hWz : fz W (sz w) = false := by rw [hW]; simp [sM]
  have hWs : sz W = sz w + 1 := by rw [hW]; simp [sM]
  have hK : Value.string { data := #[117, 117, 117, 117, 117, 117] } = strB K6 := rfl
  unfold pinL zPin at hW
  try simp (maxDischargeDepth := 8) [↓sC, sB, sM, hK, ← hW]
  have hrd := packRead_spec (most := 0) (K := K6) (hv.fr0 fW) (by omega) (by show 6 ≤ _; omega)
  refine hrd.call ?_
  rintro _ w2 ⟨ov, rfl, hown, hok, f2⟩
  obtain ⟨L, hL⟩ : ∃ L, L = (readM B K6 0).1 := ⟨_, rfl⟩
  obtain ⟨c, hc⟩ : ∃ c, c = (readM B K6 0).2.1 := ⟨_, rfl⟩
  obtain ⟨at_, hat⟩ : ∃ a, a = (readM B K6 0).2.2 := ⟨_, rfl⟩
  rw [← hL] at hown hok
  rw [← hc, ← hat]
  have g2 := fW.trans0 f2
  have hm2 : mm w2 (sz w) = pinL zPin := by rw [f2.mm (by omega) (by simp), hWm]
  have hz2 : fz w2 (sz w) = false := by rw [f2.fz (by omega) (by simp), hWz]
  have hs2 := lt_of_fz hz2
  have hsp2 : ∀ (a b : Int) (l : List Value), l.length = 2 → splice l 0 [i64 a, i64 b] = [i64 a, i64 b] := fun a b l hl => splice_full (by rw [hl]; rfl)
  obtain ⟨X, hX⟩ : ∃ X, X = wr (nw w2 [i64 0, i64 0] 142) (sz w2) [i64 c, i64 at_] := ⟨_, rfl⟩
  have fX : Fr [] w2 X := by rw [hX]; exact ((Fr.refl [] w2).nw _ _).wr (.inr (Nat.le_refl _)) _
  have hXm : mm X (sz w2) = [i64 c, i64 at_] := by rw [hX]; simp [sM]
  have hXs : sz X = sz w2 + 1 := by rw [hX]; simp [sM]
  have mX : mm X (sz w) = pinL zPin := by rw [fX.mm hs2 (by simp), hm2]
  have zX : fz X (sz w) = false := by rw [fX.fz hs2 (by simp), hz2]
  have lX : (mm X (sz w)).length = 6 := by rw [mX]; rfl
  have hzp : ∀ (Z : World), (mm Z (sz w)).length = 6 → fz Z (sz w) = false → pStore P 87 (pt (sz w) 0) (Value.agg #[Value.int .i64 0, Value.int .i64 0, Value.int .i64 0, Value.int .i64 0, Value.int .i64 0, Value.int .i64 0]) Z = some (wr Z (sz w) (pinL zPin)) := fun Z h1 h2 => pst87 (p := zPin) h1 h2
  have hzl : ∀ (Z : World), fz Z (sz w) = false → pLoad P 87 (pt (sz w) 0) (wr Z (sz w) (pinL zPin)) = some (pinV zPin, wr Z (sz w) (pinL zPin)) := fun Z h2 => pld87 (by rw [mm_wr_same h2])
  have gX := g2.trans0 fX
  by_cases hc0 : c = 0
  · have hLl : L.length = 6 := by
      have h0 : (readM B K6 0).2.1 = 0 := by rw [← hc]; exact hc0
      have := readM_full B K6 0 h0
      rw [hL, this]; rfl
    have c1 : (c = 0) = True := eq_true hc0
    have c2 : ((c : Int) = 0) = True := eq_true (by omega)
    obtain ⟨oa, oc, hov⟩ := own_sl hown
    have hlo : ∀ w, pBuiltin P .len #[140] 3 [ov] w = some (i64 6, w) := fun w => by rw [hov, hLl]; exact len140
    obtain ⟨us, hus⟩ : ∃ us, us = L.map (·.u) := ⟨_, rfl⟩
    have husl : us.length = 6 := by rw [hus, List.length_map, hLl]
    obtain ⟨Y, hY⟩ : ∃ Y, Y = nw X (nbL us 0) 92 := ⟨_, rfl⟩
    have fY : Fr [] X Y := by rw [hY]; exact (Fr.refl [] X).nw _ _
    have hYm : mm Y (sz w2 + 1) = nbL us 0 := by rw [hY, ← hXs]; simp [sM]
    have hYz : fz Y (sz w2 + 1) = false := by rw [hY, ← hXs]; simp [sM]
    have hsX : sz w < sz X := by omega
    have mY : mm Y (sz w) = pinL zPin := by rw [fY.mm hsX (by simp), mX]
    have zY : fz Y (sz w) = false := by rw [fY.fz hsX (by simp), zX]
    have hYn : Y = nw X [Value.int .i64 0, Value.int .i64 0, Value.int .i64 0, Value.int .i64 0, Value.int .i64 0, Value.int .i64 0] 92 := hY
    try simp (maxDischargeDepth := 8) [↓sC, sB, sM, hsp2, ← hX, hXm, hXs, c1, c2, mX, zX, ← hYn, hlo]
    refine loopE_of (RpI Y (sz w) (sz w2 + 1) ov L) 6 ⟨0, by omega, by omega, Fr.refl _ _, mY, zY, by rw [hYm, hus], hYz, by simp, by simp [put_get, argE_get], by simp [put_get], by simp [put_get], by simp [put_get], by simp [put_get]⟩ ?_
    rintro m e w3 hI
    obtain ⟨j, hm, hj, f3, m3, z3, n3, y3, hq, e2, e6, e19, e20, e21⟩ := hI
    subst hm
    unfold F77B0
    have hres3 := lt_of_fz z3
    have hnb3 := lt_of_fz y3
    have g3 : Fr [] w w3 := (gX.trans0 fY).trans f3 (fun k hk => .inr (by simp at hk; omega))
    have hr3 : RdV w3 ov L.length (flat partC L) := ((own_rd hown).fr0 (fX.trans0 fY)).fr f3 (fun k hk hkm => by have := own_lt hown k hk; simp at hkm; omega)
    by_cases hjl : j < 6
    · have t1 : (j < 6) = True := eq_true hjl
      have t2 : ((j : Int) < 6) = True := eq_true (by omega)
      obtain ⟨q, hqj⟩ : ∃ q, L[j]? = some q := ⟨_, List.getElem?_eq_getElem (by omega)⟩
      obtain ⟨hqu, _, _⟩ := hok q (List.mem_of_getElem? hqj)
      rw [H63x2] at hqu
      obtain ⟨pb, po, pc, hov2, hpb, hin, htk⟩ := flat_at hr3 (partC_len L) (by omega) hqj
      have hia : ∀ w', pIndexAddr P 140 ov (i64 j) w' = some (pt pb (po + j * 6), w') := fun w' => by
        rw [hov2]
        have := ia140 (w := w') (b := pb) (o := po) (n := L.length) (c := pc) (k := .i64) (j := (j : Int)) (by omega) (by omega)
        rw [this]; simp
      have hld : pLoad P 147 (pt pb (po + j * 6)) w3 = some (.agg (partC q).toArray, w3) := by rw [ld147 hin, htk]
      have hs6 : ∀ l : List Value, l.length = 6 → splice l 0 (partC q) = partC q := fun l hl => splice_full (by rw [hl]; rfl)
      have hone := partC_oneT q
      have hol : (partC q).length = 6 := rfl
      have gq : gt (partC q) 1 = u64 q.u := rfl
      obtain ⟨z, hz⟩ : ∃ z : List Value, z = [Value.int IntKind.u8 0, Value.int IntKind.u64 0, Value.int IntKind.i64 0, Value.float FloatKind.f64 0, Value.string ByteArray.empty, Value.bool false] := ⟨_, rfl⟩
      have hzl6 : z.length = 6 := by rw [hz]; rfl
      obtain ⟨Z, hZ⟩ : ∃ Z, Z = wr (nw w3 z 147) (sz w3) (partC q) := ⟨_, rfl⟩
      have fZ : Fr [] w3 Z := by rw [hZ]; exact ((Fr.refl [] w3).nw _ _).wr (.inr (Nat.le_refl _)) _
      have hZm : mm Z (sz w3) = partC q := by rw [hZ]; simp [sM]
      have mZ : mm Z (sz w) = pinL zPin := by rw [fZ.mm hres3 (by simp), m3]
      have zZ : fz Z (sz w) = false := by rw [fZ.fz hres3 (by simp), z3]
      have nZ : mm Z (sz w2 + 1) = nbL us j := by rw [fZ.mm hnb3 (by simp), n3, hus]
      have yZ : fz Z (sz w2 + 1) = false := by rw [fZ.fz hnb3 (by simp), y3]
      have hwj : IntKind.i64.wrap ((j : Int) + 1) = ((j + 1 : Nat) : Int) := wrap64 (by omega) (by omega)
      have hal : ∀ w, pAlloc P 147 w = some (pt (sz w) 0, nw w z 147) := fun w => by rw [al147, hz]
      have hst : pStore P 147 (pt (sz w3) 0) (.agg (partC q).toArray) (nw w3 z 147) = some Z := by
        rw [hZ]; try simp (maxDischargeDepth := 8) [↓sC, sB, sM, hs6, hone, hol, hzl6]
      have hl1 : pLoad P 132 (pt (sz w3) 1) Z = some (u64 q.u, Z) := by rw [ld132 (by rw [hZm, hol]; omega), hZm, gq]
      have huj : us[j]? = some q.u := by rw [hus, List.getElem?_map, hqj]; rfl
      by_cases hbig : 1099511627776 < q.u
      · have c3 : (1099511627776 < q.u) = True := eq_true hbig
        have c4 : ((1099511627776 : Int) < q.u) = True := eq_true (by omega)
        try simp (maxDischargeDepth := 8) [↓sC, sB, sM, letK_def, e2, e19, e20, e21, t1, t2, hia, hld, hal, hst, hl1, c3, c4, mZ, zZ, hzp, hzl, pinL_len, -st87, -ld87, -al147, -ld147, -st147, -ld132]
        refine ⟨⟨zPin, false, rfl, ?_⟩, (g3.trans0 fZ).wr (.inr (Nat.le_refl _)) _⟩
        unfold readP
        rw [if_neg (fun hh => by have := hh.2.1 q (by rw [← hL]; exact List.mem_of_getElem? hqj); omega)]
        rfl
      · have c3 : (1099511627776 < q.u) = False := eq_false hbig
        have c4 : ((1099511627776 : Int) < q.u) = False := eq_false (by omega)
        have hcv : ∀ w', pConv P 132 3 (u64 q.u) w' = some (i64 (q.u : Int), w') := fun w' => by
          rw [pConv_int (k := .u64) (k' := .i64) tyOk132 intK3, wrap64 (by omega) (by omega)]
        have hst3 : pStore P 3 (pt (sz w2 + 1) j) (i64 (q.u : Int)) Z = some (wr Z (sz w2 + 1) (nbL us (j + 1))) := by
          rw [st3 (by simp) yZ (by rw [nZ, nbL_len husl (by omega)]; exact hjl), nZ, nbL_set husl hjl huj]
        try simp (maxDischargeDepth := 8) [↓sC, sB, sM, letK_def, e2, e6, e19, e20, e21, t1, t2, hia, hld, hal, hst, hl1, c3, c4, hcv, hst3, hwj, -st3, -al147, -ld147, -st147, -ld132, -Int.natCast_add]
        refine ⟨6 - (j + 1), by omega, j + 1, rfl, by omega, (f3.trans fZ (by simp)).wr (.inl (by simp)) _, by rw [mm_wr_ne (by omega), mZ], by rw [fz_wr, zZ], by rw [mm_wr_same yZ, hus], by rw [fz_wr, yZ], fun x hx => ?_, by simp [put_get, e2], by simp [put_get, e6], by simp [put_get, e19], by simp [put_get, e20], by simp [put_get]⟩
        rw [List.take_add_one, hqj] at hx
        rcases List.mem_append.1 hx with hx | hx
        · exact hq x hx
        · have : x = q := by simpa using hx
          rw [this]; omega
    · have hje : j = 6 := by omega
      subst hje
      have nb6 : nbL us 6 = us.map fun n : Nat => i64 (n : Int) := by unfold nbL; rw [List.take_of_length_le (by omega)]; simp
      obtain ⟨a1, a2, a3, a4, a5, a6, ha⟩ := list6 husl
      obtain ⟨pp, hpp⟩ : ∃ pp : PinP, pp = ⟨(a1 : Int), (a2 : Int), (a3 : Int), (a4 : Int), (a5 : Int), (a6 : Int)⟩ := ⟨_, rfl⟩
      have hpo : pinOf us = pp := by rw [ha, hpp]; rfl
      have hpV : pinV pp = Value.agg #[i64 a1, i64 a2, i64 a3, i64 a4, i64 a5, i64 a6] := by rw [hpp]
      have n6 : mm w3 (sz w2 + 1) = [i64 a1, i64 a2, i64 a3, i64 a4, i64 a5, i64 a6] := by rw [n3, ← hus, nb6, ha]; rfl
      obtain ⟨V, hV⟩ : ∃ V, V = wr (nw w3 (pinL zPin) 87) (sz w3) (pinL pp) := ⟨_, rfl⟩
      have fV : Fr [] w3 V := by rw [hV]; exact ((Fr.refl [] w3).nw _ _).wr (.inr (Nat.le_refl _)) _
      have hVm : mm V (sz w3) = pinL pp := by rw [hV]; simp [sM]
      have hVs : sz w3 < sz V := by rw [hV]; simp [sM]
      have hst9 : pStore P 87 (pt (sz w3) 0) (Value.agg #[i64 a1, i64 a2, i64 a3, i64 a4, i64 a5, i64 a6]) (nw w3 [Value.int .i64 0, Value.int .i64 0, Value.int .i64 0, Value.int .i64 0, Value.int .i64 0, Value.int .i64 0] 87) = some V := by
        rw [hV, ← hpV]
        exact pst87 (by simp [sM]) (by simp [sM])
      have fVd := fV.drew
      have hl9 : pLoad P 87 (pt (sz w3) 0) (drew V) = some (pinV pp, drew V) := pld87 (by rw [mm_drew, hVm])
      try simp (maxDischargeDepth := 8) [↓sC, sB, sM, e2, e6, e20, e21, n6, hst9, hl9, -st87, -ld87]
      have hck := check_spec (w := drew V) (p := pp)
      refine hck.call ?_
      rintro _ w5 ⟨rfl, f5⟩
      have f35 : Fr [] w3 w5 := fVd.trans0 f5
      have hl5 : pLoad P 87 (pt (sz w3) 0) w5 = some (pinV pp, w5) := pld87 (by rw [f5.mm (by rw [sz_drew]; exact hVs) (by simp), mm_drew, hVm])
      have m5 : mm w5 (sz w) = pinL zPin := by rw [f35.mm hres3 (by simp), m3]
      have z5 : fz w5 (sz w) = false := by rw [f35.fz hres3 (by simp), z3]
      have hs5 : pStore P 87 (pt (sz w) 0) (pinV pp) w5 = some (wr w5 (sz w) (pinL pp)) := pst87 (by rw [m5]; rfl) z5
      have hl6 : pLoad P 87 (pt (sz w) 0) (wr w5 (sz w) (pinL pp)) = some (pinV pp, wr w5 (sz w) (pinL pp)) := pld87 (by rw [mm_wr_same z5])
      have gF : Fr [] w (wr w5 (sz w) (pinL pp)) := (g3.trans0 f35).wr (.inr (Nat.le_refl _)) _
      have h0 : (readM B K6 0).2.1 = 0 := by rw [← hc]; exact hc0
      have hall : ∀ q ∈ (readM B K6 0).1, q.u ≤ 1099511627776 := fun q hq2 => hq q (by rw [List.take_of_length_le (by omega), hL]; exact hq2)
      have hpo2 : pinOf ((readM B K6 0).1.map (·.u)) = pp := by rw [← hL, ← hus]; exact hpo
      have hrp : readP B = if okPin pp then some pp else none := by
        unfold readP
        rw [hpo2]
        by_cases hk : okPin pp
        · rw [if_pos ⟨h0, hall, hk⟩, if_pos hk]
        · rw [if_neg (fun hh => hk hh.2.2), if_neg hk]
      by_cases hk : okPin pp
      · rw [if_pos hk] at hrp ⊢
        try simp (maxDischargeDepth := 8) [↓sC, sB, sM, hl5, hs5, hl6, -st87, -ld87]
        exact ⟨⟨pp, true, rfl, hrp⟩, gF⟩
      · rw [if_neg hk] at hrp ⊢
        try simp (maxDischargeDepth := 8) [↓sC, sB, sM, hl5, hs5, hl6, -st87, -ld87]
        exact ⟨⟨pp, false, rfl, hrp⟩, gF⟩
  · have c1 : (c = 0) = False := eq_false hc0
    have c2 : ((c : Int) = 0) = False := eq_false (by omega)
    try simp (maxDischargeDepth := 8) [↓sC, sB, sM, hsp2, ← hX, hXm, hXs, c1, c2, mX, zX, hzp, hzl, pinL_len, -st87, -ld87]
    refine ⟨⟨zPin, false, rfl, ?_⟩, gX.wr (.inr (Nat.le_refl _)) _⟩
    unfold readP
    rw [if_neg (fun hh => hc0 (by rw [hc]; exact hh.1))]
    rfl
end Go.Proofs.Yticncfkpfpkfoaa

set_option linter.unusedVariables false
set_option linter.unusedSimpArgs false
namespace Go.Proofs.Yticncfkpfpkfoaa
open Go

theorem partM_kind (c : UInt8) (most : Int) (l : List UInt8) : (partM c most l).1.kind = c := by
  unfold partM
  repeat' split
  all_goals rfl
theorem readGo_kinds (most : Int) : ∀ (K l : List UInt8) (k : Nat) (acc : List PartP), ∀ q ∈ (readGo most K l k acc).1, q ∈ acc ∨ q.kind ∈ K := by
  intro K
  induction K with
  | nil =>
    intro l k acc q hq
    unfold readGo at hq
    split at hq
    · simp at hq
    · exact .inl hq
  | cons c cs ih =>
    intro l k acc q hq
    rw [readGo] at hq
    split at hq
    · simp at hq
    · rcases ih _ _ _ q hq with h | h
      · rcases List.mem_append.1 h with h | h
        · exact .inl h
        · rw [List.mem_singleton] at h
          refine .inr ?_
          rw [h, partM_kind]; exact List.mem_cons_self
      · exact .inr (List.mem_cons_of_mem _ h)
theorem readM_u {B : List UInt8} : ∀ q ∈ (readM B K6 0).1, (plain q).u = q.u := fun q hq => by
  have hk : q.kind = 117 := by
    rcases readGo_kinds 0 K6 B 0 [] q hq with h | h
    · simp at h
    · simpa [K6] using h
  unfold plain
  rw [if_pos hk]
theorem plains_map {L : List PartP} (h : ∀ q ∈ L, (plain q).u = q.u) : (L.map plain).map (·.u) = L.map (·.u) := by
  rw [List.map_map]
  apply List.map_congr_left
  intro q hq
  exact h q hq

def RqI (w0 : World) (res nb : Nat) (ov : Value) (L : List PartR) (m : Nat) (e : Env) (w' : World) : Prop :=
  ∃ j : Nat, m = 6 - j ∧ j ≤ 6 ∧ Fr [res, nb] w0 w' ∧ mm w' res = pinL zPin ∧ fz w' res = false ∧ mm w' nb = nbL (L.map (·.u)) j ∧ fz w' nb = false ∧ (∀ q ∈ L.take j, q.u ≤ 1099511627776) ∧
    e 2 = pt res 0 ∧ e 6 = ov ∧ e 9 = pt nb 0 ∧ e 10 = i64 j
theorem refOf_spec {w : World} {s : List UInt8} (hs : s.length = 64) : Ret P 61 #[sec s] w fun x w' => PinR (ofM s) x ∧ Fr [] w w' := by
  refine F61ok ?_
  unfold F61
  obtain ⟨W, hW⟩ : ∃ W, W = nw (nw w (bs s) 25) (pinL zPin) 93 := ⟨_, rfl⟩
  have fW : Fr [] w W := by rw [hW]; exact ((Fr.refl [] w).nw _ _).nw _ _
  have hW0 : mm W (sz w) = bs s := by rw [hW]; simp [sM]
  have hWm : mm W (sz w + 1) = pinL zPin := by rw [hW]; simp [sM]
  have hWz : fz W (sz w + 1) = false := by rw [hW]; simp [sM]
  have hWs : sz W = sz w + 2 := by rw [hW]; simp [sM]
  have hls : pLoad P 25 (pt (sz w) 0) W = some (sec s, W) := by
    rw [ld25 (by rw [hW0, bs_length]; omega), hW0, List.drop_zero, List.take_of_length_le (by rw [bs_length]; omega)]
  have hK : Value.string { data := #[117, 117, 117, 117, 117, 117] } = strB K6 := rfl
  unfold pinL zPin at hW
  try simp (maxDischargeDepth := 8) [↓sC, sB, sM, hK, ← hW, hls, -ld25]
  refine (refOpen_spec hs).call ?_
  rintro _ w1 ⟨f1, x, rfl, hx1, hx0⟩
  have g1 := fW.trans0 f1
  have hm1 : mm w1 (sz w + 1) = pinL zPin := by rw [f1.mm (by omega) (by simp), hWm]
  have hz1 : fz w1 (sz w + 1) = false := by rw [f1.fz (by omega) (by simp), hWz]
  have hzp : ∀ (Z : World), (mm Z (sz w + 1)).length = 6 → fz Z (sz w + 1) = false → pStore P 93 (pt (sz w + 1) 0) (Value.agg #[Value.int .i64 0, Value.int .i64 0, Value.int .i64 0, Value.int .i64 0, Value.int .i64 0, Value.int .i64 0]) Z = some (wr Z (sz w + 1) (pinL zPin)) := fun Z h1 h2 => pst93 (p := zPin) h1 h2
  have hzl : ∀ (Z : World), fz Z (sz w + 1) = false → pLoad P 93 (pt (sz w + 1) 0) (wr Z (sz w + 1) (pinL zPin)) = some (pinV zPin, wr Z (sz w + 1) (pinL zPin)) := fun Z h2 => pld93 (by rw [mm_wr_same h2])
  by_cases hwh : isWhole s
  · have c0 : (isWhole s) = True := eq_true hwh
    have hof : ofM s = readP (pay s) := by unfold ofM; rw [if_pos hwh]
    rw [hof]
    obtain ⟨B, hB⟩ : ∃ B, B = pay s := ⟨_, rfl⟩
    have hxr := hx1 hwh
    rw [← hB] at hxr ⊢
    try simp (maxDischargeDepth := 8) [↓sC, sB, sM, c0]
    have hrd := fread_spec (most := 0) (K := K6) hxr (by omega) (by omega) (by show 6 ≤ _; omega)
    refine hrd.call ?_
    rintro _ w2 ⟨ov, rfl, hown, f2⟩
    obtain ⟨L, hL⟩ : ∃ L, L = (readM B K6 0).1 := ⟨_, rfl⟩
    obtain ⟨c, hc⟩ : ∃ c, c = (readM B K6 0).2.1 := ⟨_, rfl⟩
    obtain ⟨at_, hat⟩ : ∃ a, a = (readM B K6 0).2.2 := ⟨_, rfl⟩
    obtain ⟨R, hR⟩ : ∃ R, R = L.map plain := ⟨_, rfl⟩
    have hRl : R.length = L.length := by rw [hR, List.length_map]
    rw [← hL, ← hR, ← hRl] at hown
    rw [← hc, ← hat]
    have hRu : R.map (·.u) = L.map (·.u) := by rw [hR]; exact plains_map (fun q hq => readM_u q (by rw [← hL]; exact hq))
    have g2 := g1.trans0 f2
    have hs1 := lt_of_fz hz1
    have mX : mm w2 (sz w + 1) = pinL zPin := by rw [f2.mm hs1 (by simp), hm1]
    have zX : fz w2 (sz w + 1) = false := by rw [f2.fz hs1 (by simp), hz1]
    have hs2 := lt_of_fz zX
    by_cases hc0 : c = 0
    · have h0 : (readM B K6 0).2.1 = 0 := by rw [← hc]; exact hc0
      have hLl : L.length = 6 := by
        have := readM_full B K6 0 h0
        rw [hL, this]; rfl
      have c1 : (c = 0) = True := eq_true hc0
      have c2 : ((c : Int) = 0) = True := eq_true (by omega)
      obtain ⟨us, hus⟩ : ∃ us, us = R.map (·.u) := ⟨_, rfl⟩
      have husl : us.length = 6 := by rw [hus, List.length_map, hRl, hLl]
      obtain ⟨Y, hY⟩ : ∃ Y, Y = wr (nw w2 (nbL us 0) 93) (sz w2) (pinL zPin) := ⟨_, rfl⟩
      have fY : Fr [] w2 Y := by rw [hY]; exact ((Fr.refl [] w2).nw _ _).wr (.inr (Nat.le_refl _)) _
      have hYm : mm Y (sz w2) = nbL us 0 := by rw [hY, mm_wr_same (by simp [sM])]; rfl
      have hYz : fz Y (sz w2) = false := by rw [hY]; simp [sM]
      have mY : mm Y (sz w + 1) = pinL zPin := by rw [fY.mm hs2 (by simp), mX]
      have zY : fz Y (sz w + 1) = false := by rw [fY.fz hs2 (by simp), zX]
      have hYn : Y = wr (nw w2 [Value.int .i64 0, Value.int .i64 0, Value.int .i64 0, Value.int .i64 0, Value.int .i64 0, Value.int .i64 0] 93) (sz w2) [Value.int .i64 0, Value.int .i64 0, Value.int .i64 0, Value.int .i64 0, Value.int .i64 0, Value.int .i64 0] := hY
      try simp (maxDischargeDepth := 8) [↓sC, sB, sM, c1, c2, ← hYn]
      refine loopE_of (RqI Y (sz w + 1) (sz w2) ov R) 6 ⟨0, by omega, by omega, Fr.refl _ _, mY, zY, by rw [hYm, hus], hYz, by simp, by simp [put_get, argE_get], by simp [put_get], by simp [put_get], by simp [put_get]⟩ ?_
      rintro m e w3 hI
      obtain ⟨j, hm, hj, f3, m3, z3, n3, y3, hq, e2, e6, e9, e10⟩ := hI
      subst hm
      unfold F61B0
      have hres3 := lt_of_fz z3
      have hnb3 := lt_of_fz y3
      have g3 : Fr [] w w3 := (g2.trans0 fY).trans f3 (fun k hk => .inr (by simp at hk; omega))
      have hr3 : RdV w3 ov R.length (flat refC R) := ((own_rd hown).fr0 fY).fr f3 (fun k hk hkm => by have := own_lt hown k hk; have := f1.size; simp at hkm; omega)
      by_cases hjl : j < 6
      · have t1 : (j < 6) = True := eq_true hjl
        have t2 : ((j : Int) < 6) = True := eq_true (by omega)
        obtain ⟨q, hqj⟩ : ∃ q, R[j]? = some q := ⟨_, List.getElem?_eq_getElem (by omega)⟩
        obtain ⟨pb, po, pc, hov2, hpb, hin, htk⟩ := flat_at hr3 (refC_len R) (by omega) hqj
        have hia : ∀ w', pIndexAddr P 129 ov (i64 j) w' = some (pt pb (po + j * 6), w') := fun w' => by
          rw [hov2]
          have := ia129 (w := w') (b := pb) (o := po) (n := R.length) (c := pc) (k := .i64) (j := (j : Int)) (by omega) (by omega)
          rw [this]; simp
        have hl1 : pLoad P 132 (pt pb (po + j * 6 + 1)) w3 = some (u64 q.u, w3) := by
          rw [ld132 (by omega)]
          have : gt (mm w3 pb) (po + j * 6 + 1) = gt (((mm w3 pb).drop (po + j * 6)).take 6) 1 := by
            unfold gt
            rw [List.getD_eq_getElem?_getD, List.getD_eq_getElem?_getD, List.getElem?_take, if_pos (by omega), List.getElem?_drop]
          rw [this, htk]
          rfl
        have hwj : IntKind.i64.wrap ((j : Int) + 1) = ((j + 1 : Nat) : Int) := wrap64 (by omega) (by omega)
        have huj : us[j]? = some q.u := by rw [hus, List.getElem?_map, hqj]; rfl
        by_cases hbig : 1099511627776 < q.u
        · have c3 : (1099511627776 < q.u) = True := eq_true hbig
          have c4 : ((1099511627776 : Int) < q.u) = True := eq_true (by omega)
          try simp (maxDischargeDepth := 8) [↓sC, sB, sM, letK_def, e2, e6, e9, e10, t1, t2, hia, hl1, c3, c4, m3, z3, hzp, hzl, pinL_len, -st93, -ld93, -ld132]
          refine ⟨⟨zPin, false, rfl, ?_⟩, g3.wr (.inr (by omega)) _⟩
          have hqm : q.u ∈ L.map (·.u) := by rw [← hRu, ← hus]; exact List.mem_of_getElem? huj
          obtain ⟨q2, hq2, hq3⟩ := List.mem_map.1 hqm
          unfold readP
          rw [if_neg (fun hh => by have := hh.2.1 q2 (by rw [← hL]; exact hq2); omega)]
          rfl
        · have c3 : (1099511627776 < q.u) = False := eq_false hbig
          have c4 : ((1099511627776 : Int) < q.u) = False := eq_false (by omega)
          have hcv : ∀ w', pConv P 132 3 (u64 q.u) w' = some (i64 (q.u : Int), w') := fun w' => by
            rw [pConv_int (k := .u64) (k' := .i64) tyOk132 intK3, wrap64 (by omega) (by omega)]
          have hst3 : pStore P 3 (pt (sz w2) j) (i64 (q.u : Int)) w3 = some (wr w3 (sz w2) (nbL us (j + 1))) := by
            rw [st3 (by simp) y3 (by rw [n3, ← hus, nbL_len husl (by omega)]; exact hjl), n3, ← hus, nbL_set husl hjl huj]
          try simp (maxDischargeDepth := 8) [↓sC, sB, sM, letK_def, e2, e6, e9, e10, t1, t2, hia, hl1, c3, c4, hcv, hst3, hwj, -st3, -ld132, -Int.natCast_add]
          refine ⟨6 - (j + 1), by omega, j + 1, rfl, by omega, f3.wr (.inl (by simp)) _, by rw [mm_wr_ne (by omega), m3], by rw [fz_wr, z3], by rw [mm_wr_same y3, hus], by rw [fz_wr, y3], fun x hx => ?_, by simp [put_get, e2], by simp [put_get, e6], by simp [put_get, e9], by simp [put_get]⟩
          rw [List.take_add_one, hqj] at hx
          rcases List.mem_append.1 hx with hx | hx
          · exact hq x hx
          · have : x = q := by simpa using hx
            rw [this]; omega
      · have hje : j = 6 := by omega
        subst hje
        have nb6 : nbL us 6 = us.map fun n : Nat => i64 (n : Int) := by unfold nbL; rw [List.take_of_length_le (by omega)]; simp
        obtain ⟨a1, a2, a3, a4, a5, a6, ha⟩ := list6 husl
        obtain ⟨pp, hpp⟩ : ∃ pp : PinP, pp = ⟨(a1 : Int), (a2 : Int), (a3 : Int), (a4 : Int), (a5 : Int), (a6 : Int)⟩ := ⟨_, rfl⟩
        have hpo : pinOf us = pp := by rw [ha, hpp]; rfl
        have n6 : mm w3 (sz w2) = pinL pp := by rw [n3, ← hus, nb6, ha, hpp]; rfl
        have fD := (Fr.refl [] w3).drew
        have hlD : pLoad P 93 (pt (sz w2) 0) (drew w3) = some (pinV pp, drew w3) := pld93 (by rw [mm_drew, n6])
        try simp (maxDischargeDepth := 8) [↓sC, sB, sM, e2, e6, e9, e10, hlD, -st93, -ld93]
        have hck := refCheck_spec (w := drew w3) (p := pp)
        refine hck.call ?_
        rintro _ w5 ⟨rfl, f5⟩
        have f35 : Fr [] w3 w5 := fD.trans0 f5
        have hl5 : pLoad P 93 (pt (sz w2) 0) w5 = some (pinV pp, w5) := pld93 (by rw [f35.mm hnb3 (by simp), n6])
        have m5 : mm w5 (sz w + 1) = pinL zPin := by rw [f35.mm hres3 (by simp), m3]
        have z5 : fz w5 (sz w + 1) = false := by rw [f35.fz hres3 (by simp), z3]
        have hs5 : pStore P 93 (pt (sz w + 1) 0) (pinV pp) w5 = some (wr w5 (sz w + 1) (pinL pp)) := pst93 (by rw [m5]; rfl) z5
        have hl6 : pLoad P 93 (pt (sz w + 1) 0) (wr w5 (sz w + 1) (pinL pp)) = some (pinV pp, wr w5 (sz w + 1) (pinL pp)) := pld93 (by rw [mm_wr_same z5])
        have gF : Fr [] w (wr w5 (sz w + 1) (pinL pp)) := (g3.trans0 f35).wr (.inr (by omega)) _
        have hall : ∀ q ∈ (readM B K6 0).1, q.u ≤ 1099511627776 := fun q hq2 => by
          have hqm : q.u ∈ R.map (·.u) := by rw [hRu, hL]; exact List.mem_map_of_mem hq2
          obtain ⟨q3, hq3, hq4⟩ := List.mem_map.1 hqm
          have := hq q3 (by rw [List.take_of_length_le (by omega)]; exact hq3)
          omega
        have hpo2 : pinOf ((readM B K6 0).1.map (·.u)) = pp := by rw [← hL, ← hRu, ← hus]; exact hpo
        have hrp : readP B = if okPin pp then some pp else none := by
          unfold readP
          rw [hpo2]
          by_cases hk : okPin pp
          · rw [if_pos ⟨h0, hall, hk⟩, if_pos hk]
          · rw [if_neg (fun hh => hk hh.2.2), if_neg hk]
        try simp (maxDischargeDepth := 8) [↓sC, sB, sM, hl5, hs5, hl6, -st93, -ld93]
        refine ⟨⟨pp, decide (okPin pp), rfl, ?_⟩, gF⟩
        rw [hrp]
        by_cases hk : okPin pp
        · rw [if_pos hk, if_pos (decide_eq_true hk)]
        · rw [if_neg hk, if_neg (by rw [decide_eq_false hk]; simp)]
    · have c1 : (c = 0) = False := eq_false hc0
      have c2 : ((c : Int) = 0) = False := eq_false (by omega)
      try simp (maxDischargeDepth := 8) [↓sC, sB, sM, c1, c2, mX, zX, hzp, hzl, pinL_len, -st93, -ld93]
      refine ⟨⟨zPin, false, rfl, ?_⟩, g2.wr (.inr (by omega)) _⟩
      unfold readP
      rw [if_neg (fun hh => hc0 (by rw [hc]; exact hh.1))]
      rfl
  · have c0 : (isWhole s) = False := eq_false hwh
    try simp (maxDischargeDepth := 8) [↓sC, sB, sM, c0, hm1, hz1, hzp, hzl, pinL_len, -st93, -ld93]
    exact ⟨⟨zPin, false, rfl, by rw [ofM_bad hwh]; rfl⟩, g1.wr (.inr (by omega)) _⟩
end Go.Proofs.Yticncfkpfpkfoaa
