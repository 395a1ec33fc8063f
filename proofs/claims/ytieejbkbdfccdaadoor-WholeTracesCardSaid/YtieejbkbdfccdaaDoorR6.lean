/- A record that may be is one that the program lets. -/
import Derived.Test.YtieejbkbdfccdaaDoorSim
import Derived.Test.YtieejbkbdfccdaaDoorR5
set_option linter.unusedVariables false
set_option linter.unusedSimpArgs false
namespace Go.Proofs.YtieejbkbdfccdaaDoor
open Go

theorem items_spec {w : World} {k : Int} {a : Option Addr} {c : Nat} {L : List ItemP} (hr : RdV w (.slice a L.length c) L.length (flat itemV L)) (hok : ∀ x ∈ L, okI x) (hL : L.length ≤ 1000000) (hP : ∀ i, i < L.length → itemP k L i) :
    Ret P 58 #[i64 k, .slice a L.length c] w fun v w' => v = i64 0 ∧ Fr [] w w' := by
  refine F58ok ?_
  unfold F58
  try simp (maxDischargeDepth := 8) [↓sC, sB, sM]
  refine loopE_of (ItI w k (.slice a L.length c) L.length) L.length ⟨0, by omega, by omega, by simp [put_get, argE_get], by simp [put_get, argE_get], by simp [put_get], by simp [put_get], by simp [put_get], Fr.refl [] w⟩ ?_
  rintro m e w1 hI
  obtain ⟨j, rfl, hj, e0, e1, e7, e8, e9, hf⟩ := id hI
  by_cases hjl : j < L.length
  · exact items_step hr hok hL (hP j hjl) hjl hI fun e' w'' hK => ⟨L.length - (j + 1), by omega, hK⟩
  have : j = L.length := by omega
  subst this
  unfold F58B0
  try simp (maxDischargeDepth := 8) [↓sC, sB, sM, e8, e9]
  exact hf
theorem recCheck_zero {w : World} {r : RecP} {a : Option Addr} {c : Nat} (h0 : r.kind = 0) : Ret P 26 #[.agg (rcV r (.slice a r.list.length c)).toArray] w fun v w' => v = i64 5 ∧ Fr [] w w' := by
  refine F26ok ?_
  unfold F26
  obtain ⟨W, hW⟩ : ∃ W, W = nw w (rcV r (.slice a r.list.length c)) 25 := ⟨_, rfl⟩
  have fW : Fr [] w W := by rw [hW]; exact (Fr.refl [] w).nw _ _
  have hm : mm W (sz w) = rcV r (.slice a r.list.length c) := by rw [hW]; simp [mm_nw]
  have hsW : sz w < sz W := by rw [hW, sz_nw]; omega
  try simp (maxDischargeDepth := 8) [↓sC, sB, sM, rcC, ← hW, hm]
  refine shaped_spec.call ?_
  rintro _ w1 ⟨rfl, f1⟩
  have hs : shapeV r.kind = shB false false false false false := by rw [h0]; rfl
  rw [hs]
  have hs5 : ∀ l : List Value, l.length = 5 → splice l 0 (shB false false false false false) = shB false false false false false := fun l hl => splice_full (by rw [hl]; rfl)
  obtain ⟨W2, hW2⟩ : ∃ W2, W2 = wr (nw w1 [Value.bool false, Value.bool false, Value.bool false, Value.bool false, Value.bool false] 108) (sz w1) (shB false false false false false) := ⟨_, rfl⟩
  have fW2 : Fr [] w1 W2 := by rw [hW2]; exact ((Fr.refl [] w1).nw _ _).wr (.inr (Nat.le_refl _)) _
  have hm2 : mm W2 (sz w) = rcV r (.slice a r.list.length c) := by rw [fW2.mm (f1.lt hsW) (by simp), f1.mm hsW (by simp), hm]
  try simp (maxDischargeDepth := 8) [↓sC, sB, sM, hs5, shB_one, ← hW2, hm2, h0]
  exact (fW.trans0 f1).trans0 fW2
set_option maxHeartbeats 2000000 in
theorem recCheck_spec {w : World} {r : RecP} {a : Option Addr} {c : Nat} (hr : IsRec w (.slice a r.list.length c) r) (hok : RecOk r) :
    Ret P 26 #[.agg (rcV r (.slice a r.list.length c)).toArray] w fun v w' => v = i64 0 ∧ Fr [] w w' := by
  refine F26ok ?_
  unfold F26
  obtain ⟨W, hW⟩ : ∃ W, W = nw w (rcV r (.slice a r.list.length c)) 25 := ⟨_, rfl⟩
  have fW : Fr [] w W := by rw [hW]; exact (Fr.refl [] w).nw _ _
  have hm : mm W (sz w) = rcV r (.slice a r.list.length c) := by rw [hW]; simp [mm_nw]
  have hsW : sz w < sz W := by rw [hW, sz_nw]; omega
  try simp (maxDischargeDepth := 8) [↓sC, sB, sM, rcC, ← hW, hm]
  refine shaped_spec.call ?_
  rintro _ w1 ⟨rfl, f1⟩
  have hs1 := f1.lt hsW
  have hbare := fun {w} => bare_spec (w := w) (a := a) (c := c) hok.k1 hok.k9 hok.only hr.2
  have k0 : ¬ r.kind ≤ 0 := by have := hok.k1; omega
  have k10 : ¬ 10 ≤ r.kind := by have := hok.k9; omega
  have t8 : ∀ r lv, (rcV r lv).take 8 = rcV r lv := fun _ _ => rfl
  have t5 : ∀ a b c d e, (shB a b c d e).take 5 = shB a b c d e := fun _ _ _ _ _ => rfl
  have hs5 : ∀ a b c d e, ∀ l : List Value, l.length = 5 → splice l 0 (shB a b c d e) = shB a b c d e := fun a b c d e l hl => splice_full (by rw [hl]; rfl)
  have hlen : ∀ w, pBuiltin P .len #[9] 3 [strB r.text] w = some (i64 r.text.length, w) := fun w => len_strB und9
  rcases five_kinds hok.k1 hok.k9 hok.only with ⟨hk, hs, c1, c2, c3, c4, c5, c6⟩ | ⟨hk, hs, c1, c2, c3, c4, c5, c6⟩ | ⟨hk, hs, c1, c4, c5, c6⟩ | ⟨hk, hs, c1, c2, c3, c4, c5, c6⟩ | ⟨hk, hs, c1, c2, c3, c4, c5⟩
  · have t1 : ¬ (64 : Int) < r.text.length := by have := hok.text hk; omega
    rw [hs] at hbare ⊢
    obtain ⟨W2, hW2⟩ : ∃ W2, W2 = wr (nw w1 [Value.bool false, Value.bool false, Value.bool false, Value.bool false, Value.bool false] 108) (sz w1) (shB true false false false false) := ⟨_, rfl⟩
    have fW2 : Fr [] w1 W2 := by rw [hW2]; exact ((Fr.refl [] w1).nw _ _).wr (.inr (Nat.le_refl _)) _
    have hm2 : mm W2 (sz w) = rcV r (.slice a r.list.length c) := by rw [fW2.mm hs1 (by simp), f1.mm hsW (by simp), hm]
    have hz2 : mm W2 (sz w1) = shB true false false false false := by rw [hW2]; exact mm_wr_same (by simp [fz_nw]) _
    have hsz2 : sz w1 < sz W2 := by rw [hW2, sz_wr, sz_nw]; omega
    have hsz1 : sz w < sz W2 := by omega
    try simp (maxDischargeDepth := 8) [↓sC, sB, sM, hs5, shB_one, ← hW2, hm2, hz2, k0, k10, t8, t5]
    refine hbare.call ?_
    rintro _ w3 ⟨rfl, f3⟩
    have hm3 : mm w3 (sz w) = rcV r (.slice a r.list.length c) := by rw [f3.mm hsz1 (by simp), hm2]
    have hz3 : mm w3 (sz w1) = shB true false false false false := by rw [f3.mm hsz2 (by simp), hz2]
    have hl1 := f3.lt hsz1
    have hl2 := f3.lt hsz2
    try simp (maxDischargeDepth := 8) [↓sC, sB, sM, hm3, hz3, hlen, t1]
    refine (proper_spec hr.2.2.2.2.2.1).call ?_
    rintro _ w4 ⟨rfl, f4⟩
    have hm4 : mm w4 (sz w) = rcV r (.slice a r.list.length c) := by rw [f4.mm hl1 (by simp), hm3]
    have hz4 : mm w4 (sz w1) = shB true false false false false := by rw [f4.mm hl2 (by simp), hz3]
    rw [decide_eq_true hok.real]
    have g4 := (((fW.trans0 f1).trans0 fW2).trans0 f3).trans0 f4
    try simp (maxDischargeDepth := 8) [↓sC, sB, sM, hm4, hz4]
    exact g4
  · have t1 : ¬ (64 : Int) < r.text.length := by rw [c1]; simp
    rw [hs] at hbare ⊢
    obtain ⟨W2, hW2⟩ : ∃ W2, W2 = wr (nw w1 [Value.bool false, Value.bool false, Value.bool false, Value.bool false, Value.bool false] 108) (sz w1) (shB false true false false false) := ⟨_, rfl⟩
    have fW2 : Fr [] w1 W2 := by rw [hW2]; exact ((Fr.refl [] w1).nw _ _).wr (.inr (Nat.le_refl _)) _
    have hm2 : mm W2 (sz w) = rcV r (.slice a r.list.length c) := by rw [fW2.mm hs1 (by simp), f1.mm hsW (by simp), hm]
    have hz2 : mm W2 (sz w1) = shB false true false false false := by rw [hW2]; exact mm_wr_same (by simp [fz_nw]) _
    have hsz2 : sz w1 < sz W2 := by rw [hW2, sz_wr, sz_nw]; omega
    have hsz1 : sz w < sz W2 := by omega
    try simp (maxDischargeDepth := 8) [↓sC, sB, sM, hs5, shB_one, ← hW2, hm2, hz2, k0, k10, t8, t5]
    refine hbare.call ?_
    rintro _ w3 ⟨rfl, f3⟩
    have hm3 : mm w3 (sz w) = rcV r (.slice a r.list.length c) := by rw [f3.mm hsz1 (by simp), hm2]
    have hz3 : mm w3 (sz w1) = shB false true false false false := by rw [f3.mm hsz2 (by simp), hz2]
    have hl1 := f3.lt hsz1
    have hl2 := f3.lt hsz2
    try simp (maxDischargeDepth := 8) [↓sC, sB, sM, hm3, hz3, hlen, t1]
    refine (proper_spec hr.2.2.2.2.2.1).call ?_
    rintro _ w4 ⟨rfl, f4⟩
    have hm4 : mm w4 (sz w) = rcV r (.slice a r.list.length c) := by rw [f4.mm hl1 (by simp), hm3]
    have hz4 : mm w4 (sz w1) = shB false true false false false := by rw [f4.mm hl2 (by simp), hz3]
    rw [decide_eq_true hok.real]
    have g4 := (((fW.trans0 f1).trans0 fW2).trans0 f3).trans0 f4
    try simp (maxDischargeDepth := 8) [↓sC, sB, sM, hm4, hz4]
    exact g4
  · have t1 : ¬ (64 : Int) < r.text.length := by rw [c1]; simp
    rw [hs] at hbare ⊢
    obtain ⟨W2, hW2⟩ : ∃ W2, W2 = wr (nw w1 [Value.bool false, Value.bool false, Value.bool false, Value.bool false, Value.bool false] 108) (sz w1) (shB false true true false false) := ⟨_, rfl⟩
    have fW2 : Fr [] w1 W2 := by rw [hW2]; exact ((Fr.refl [] w1).nw _ _).wr (.inr (Nat.le_refl _)) _
    have hm2 : mm W2 (sz w) = rcV r (.slice a r.list.length c) := by rw [fW2.mm hs1 (by simp), f1.mm hsW (by simp), hm]
    have hz2 : mm W2 (sz w1) = shB false true true false false := by rw [hW2]; exact mm_wr_same (by simp [fz_nw]) _
    have hsz2 : sz w1 < sz W2 := by rw [hW2, sz_wr, sz_nw]; omega
    have hsz1 : sz w < sz W2 := by omega
    try simp (maxDischargeDepth := 8) [↓sC, sB, sM, hs5, shB_one, ← hW2, hm2, hz2, k0, k10, t8, t5]
    refine hbare.call ?_
    rintro _ w3 ⟨rfl, f3⟩
    have hm3 : mm w3 (sz w) = rcV r (.slice a r.list.length c) := by rw [f3.mm hsz1 (by simp), hm2]
    have hz3 : mm w3 (sz w1) = shB false true true false false := by rw [f3.mm hsz2 (by simp), hz2]
    have hl1 := f3.lt hsz1
    have hl2 := f3.lt hsz2
    obtain ⟨b1, b2, b3, b4⟩ := hok.bounds hk
    unfold MP at b1 b2
    have b1i : ¬ r.low < -2305843009213693952 := by omega
    have b2i : ¬ 2305843009213693952 < r.high := by omega
    have b3i : ¬ r.num < r.low := by omega
    have b4i : ¬ r.high < r.num := by omega
    try simp (maxDischargeDepth := 8) [↓sC, sB, sM, hm3, hz3, hlen, t1, b1i, b2i, b3i, b4i]
    refine (proper_spec hr.2.2.2.2.2.1).call ?_
    rintro _ w4 ⟨rfl, f4⟩
    have hm4 : mm w4 (sz w) = rcV r (.slice a r.list.length c) := by rw [f4.mm hl1 (by simp), hm3]
    have hz4 : mm w4 (sz w1) = shB false true true false false := by rw [f4.mm hl2 (by simp), hz3]
    rw [decide_eq_true hok.real]
    have g4 := (((fW.trans0 f1).trans0 fW2).trans0 f3).trans0 f4
    try simp (maxDischargeDepth := 8) [↓sC, sB, sM, hm4, hz4]
    exact g4
  · have t1 : ¬ (64 : Int) < r.text.length := by rw [c1]; simp
    rw [hs] at hbare ⊢
    obtain ⟨W2, hW2⟩ : ∃ W2, W2 = wr (nw w1 [Value.bool false, Value.bool false, Value.bool false, Value.bool false, Value.bool false] 108) (sz w1) (shB false false false true false) := ⟨_, rfl⟩
    have fW2 : Fr [] w1 W2 := by rw [hW2]; exact ((Fr.refl [] w1).nw _ _).wr (.inr (Nat.le_refl _)) _
    have hm2 : mm W2 (sz w) = rcV r (.slice a r.list.length c) := by rw [fW2.mm hs1 (by simp), f1.mm hsW (by simp), hm]
    have hz2 : mm W2 (sz w1) = shB false false false true false := by rw [hW2]; exact mm_wr_same (by simp [fz_nw]) _
    have hsz2 : sz w1 < sz W2 := by rw [hW2, sz_wr, sz_nw]; omega
    have hsz1 : sz w < sz W2 := by omega
    try simp (maxDischargeDepth := 8) [↓sC, sB, sM, hs5, shB_one, ← hW2, hm2, hz2, k0, k10, t8, t5]
    refine hbare.call ?_
    rintro _ w3 ⟨rfl, f3⟩
    have hm3 : mm w3 (sz w) = rcV r (.slice a r.list.length c) := by rw [f3.mm hsz1 (by simp), hm2]
    have hz3 : mm w3 (sz w1) = shB false false false true false := by rw [f3.mm hsz2 (by simp), hz2]
    have hl1 := f3.lt hsz1
    have hl2 := f3.lt hsz2
    try simp (maxDischargeDepth := 8) [↓sC, sB, sM, hm3, hz3, hlen, t1]
    refine (proper_spec hr.2.2.2.2.2.1).call ?_
    rintro _ w4 ⟨rfl, f4⟩
    have hm4 : mm w4 (sz w) = rcV r (.slice a r.list.length c) := by rw [f4.mm hl1 (by simp), hm3]
    have hz4 : mm w4 (sz w1) = shB false false false true false := by rw [f4.mm hl2 (by simp), hz3]
    rw [decide_eq_true hok.real]
    have g4 := (((fW.trans0 f1).trans0 fW2).trans0 f3).trans0 f4
    try simp (maxDischargeDepth := 8) [↓sC, sB, sM, hm4, hz4]
    exact g4
  · have t1 : ¬ (64 : Int) < r.text.length := by rw [c1]; simp
    rw [hs] at hbare ⊢
    obtain ⟨W2, hW2⟩ : ∃ W2, W2 = wr (nw w1 [Value.bool false, Value.bool false, Value.bool false, Value.bool false, Value.bool false] 108) (sz w1) (shB false false false false true) := ⟨_, rfl⟩
    have fW2 : Fr [] w1 W2 := by rw [hW2]; exact ((Fr.refl [] w1).nw _ _).wr (.inr (Nat.le_refl _)) _
    have hm2 : mm W2 (sz w) = rcV r (.slice a r.list.length c) := by rw [fW2.mm hs1 (by simp), f1.mm hsW (by simp), hm]
    have hz2 : mm W2 (sz w1) = shB false false false false true := by rw [hW2]; exact mm_wr_same (by simp [fz_nw]) _
    have hsz2 : sz w1 < sz W2 := by rw [hW2, sz_wr, sz_nw]; omega
    have hsz1 : sz w < sz W2 := by omega
    try simp (maxDischargeDepth := 8) [↓sC, sB, sM, hs5, shB_one, ← hW2, hm2, hz2, k0, k10, t8, t5]
    refine hbare.call ?_
    rintro _ w3 ⟨rfl, f3⟩
    have hm3 : mm w3 (sz w) = rcV r (.slice a r.list.length c) := by rw [f3.mm hsz1 (by simp), hm2]
    have hz3 : mm w3 (sz w1) = shB false false false false true := by rw [f3.mm hsz2 (by simp), hz2]
    have hl1 := f3.lt hsz1
    have hl2 := f3.lt hsz2
    try simp (maxDischargeDepth := 8) [↓sC, sB, sM, hm3, hz3, hlen, t1]
    refine (proper_spec hr.2.2.2.2.2.1).call ?_
    rintro _ w4 ⟨rfl, f4⟩
    have hm4 : mm w4 (sz w) = rcV r (.slice a r.list.length c) := by rw [f4.mm hl1 (by simp), hm3]
    have hz4 : mm w4 (sz w1) = shB false false false false true := by rw [f4.mm hl2 (by simp), hz3]
    rw [decide_eq_true hok.real]
    have g4 := (((fW.trans0 f1).trans0 fW2).trans0 f3).trans0 f4
    obtain ⟨q1, q2, q3, q4⟩ := hok.cap (by omega)
    have q1i : ¬ r.cap < 1 := by omega
    have q2i : ¬ 32 < r.cap := by omega
    have q3i : ¬ r.cap < (r.list.length : Int) := by omega
    try simp (maxDischargeDepth := 8) [↓sC, sB, sM, hm4, hz4, q1i, q2i, q3i]
    refine (items_spec (hr.fr0 g4).1 hr.2.2.2.2.2.2.2 (by omega) q4).call ?_
    rintro _ w5 ⟨rfl, f5⟩
    try simp (maxDischargeDepth := 8) [↓sC, sB, sM]
    exact g4.trans0 f5
end Go.Proofs.YtieejbkbdfccdaaDoor
