/- Records, as the document checks them: the whole check; sizes; sameness. -/
import Derived.Test.YtieejbkbdfccdaaDoorSim
import Derived.Test.YtieejbkbdfccdaaDoorR2
set_option linter.unusedVariables false
set_option linter.unusedSimpArgs false
namespace Go.Proofs.YtieejbkbdfccdaaDoor
open Go

def MP : Int := 2305843009213693952
structure RecOk (r : RecP) : Prop where
  k1 : 1 ≤ r.kind
  k9 : r.kind ≤ 9
  only : onlyP r (fieldsR r.kind)
  text : r.kind = 1 → r.text.length ≤ 64
  bounds : r.kind = 4 → -MP ≤ r.low ∧ r.high ≤ MP ∧ r.low ≤ r.num ∧ r.num ≤ r.high
  real : r.real = canon r.real
  cap : 8 ≤ r.kind → 1 ≤ r.cap ∧ r.cap ≤ 32 ∧ (r.list.length : Int) ≤ r.cap ∧ ∀ i, i < r.list.length → itemP r.kind r.list i
theorem fields_five {k : Int} (h1 : 1 ≤ k) (h2 : k ≤ 9) : fiveS (fieldsR k) := by
  have : k = 1 ∨ k = 2 ∨ k = 3 ∨ k = 4 ∨ k = 5 ∨ k = 6 ∨ k = 7 ∨ k = 8 ∨ k = 9 := by omega
  rcases this with rfl | rfl | rfl | rfl | rfl | rfl | rfl | rfl | rfl <;> simp [fieldsR, fieldL, fiveS]
theorem wneg_MP : IntKind.i64.wrap (-2305843009213693952) = -2305843009213693952 := by decide

def RefI (w0 : World) (r : RecP) (lv : Value) (b : Nat) (m : Nat) (e : Env) (w' : World) : Prop :=
  ∃ j : Nat, m = r.list.length - j ∧ j ≤ r.list.length ∧ (∀ i, i < j → itemP r.kind r.list i) ∧ e 1 = pt b 0 ∧ e 4 = i64 j ∧ mm w' b = rcV r lv ∧ b < sz w' ∧ IsRec w' lv r ∧ Fr [] w0 w'
theorem refCheck_list {w : World} {r : RecP} {a : Option Addr} {c : Nat} {b : Nat} (hb : sz w ≤ b) (hc : r.list.length ≤ 32) {e : Env} {w2 : World} (e1 : e 1 = pt b 0) (e4 : e 4 = i64 0) (hm : mm w2 b = rcV r (.slice a r.list.length c)) (hb2 : b < sz w2)
    (hr : IsRec w2 (.slice a r.list.length c) r) (hf : Fr [] w w2) {K : KT} (hbad : ∀ e' w' (n : Int), n ≠ 0 → Fr [] w w' → e' 2 = i64 n → K .ret e' w') (hok : ∀ e' w', Fr [] w w' → (∀ i, i < r.list.length → itemP r.kind r.list i) → K (.exit 0) e' w') :
    loopE F32B0 e w2 K := by
  refine loopE_of (RefI w r (.slice a r.list.length c) b) r.list.length ⟨0, by omega, by omega, by simp, e1, e4, hm, hb2, hr, hf⟩ ?_
  rintro m e w3 ⟨j, rfl, hj, hall, e1, e4, hm, hb2, hr, hf⟩
  unfold F32B0
  have hml : 0 + 7 < (mm w3 b).length := by rw [hm]; simp
  by_cases hjl : j < r.list.length
  · have hji : (j : Int) < r.list.length := by omega
    have hwj : IntKind.i64.wrap ((j : Int) + 1) = ((j + 1 : Nat) : Int) := wrap64 (by omega) (by omega)
    try simp (maxDischargeDepth := 8) [↓sC, sB, sM, e1, e4, hm, hji, hjl]
    refine (item_spec hr.1 hr.2.2.2.2.2.2.2 (by omega) hjl).call ?_
    rintro _ w4 ⟨n, rfl, hn, f4⟩
    rcases (Decidable.em (n = 0)).symm with n0 | n0
    · try simp (maxDischargeDepth := 8) [↓sC, sB, sM, n0]
      exact hbad _ _ n n0 (hf.trans0 f4) (by simp [put_get])
    try simp (maxDischargeDepth := 8) [↓sC, sB, sM, n0, hwj, e4, -Int.natCast_add]
    refine ⟨r.list.length - (j + 1), by omega, j + 1, rfl, by omega, fun i hi => ?_, by simp [put_get, e1], by simp [put_get], by rw [f4.mm hb2 (by simp), hm], f4.lt hb2, hr.fr0 f4, hf.trans0 f4⟩
    rcases Nat.lt_or_ge i j with h | h
    · exact hall i h
    · have : i = j := by omega
      subst this; exact hn n0
  · have : j = r.list.length := by omega
    subst this
    try simp (maxDischargeDepth := 8) [↓sC, sB, sM, e1, e4, hm]
    exact hok _ _ hf hall
theorem refCheck_spec {w : World} {r : RecP} {a : Option Addr} {c : Nat} (hr : IsRec w (.slice a r.list.length c) r) :
    Ret P 32 #[.agg (rcV r (.slice a r.list.length c)).toArray] w fun v w' => ∃ n : Int, v = i64 n ∧ (n = 0 → RecOk r) ∧ Fr [] w w' := by
  refine F32ok ?_
  unfold F32
  obtain ⟨W, hW⟩ : ∃ W, W = nw w (rcV r (.slice a r.list.length c)) 25 := ⟨_, rfl⟩
  have fW : Fr [] w W := by rw [hW]; exact (Fr.refl [] w).nw _ _
  have hm : mm W (sz w) = rcV r (.slice a r.list.length c) := by rw [hW]; simp [mm_nw]
  have hsW : sz w < sz W := by rw [hW, sz_nw]; omega
  have t8 : ∀ r lv, (rcV r lv).take 8 = rcV r lv := fun _ _ => rfl
  try simp (maxDischargeDepth := 8) [↓sC, sB, sM, rcC, ← hW, hm]
  rcases (Decidable.em (1 ≤ r.kind)).symm with a1 | a1
  · have a1i : r.kind < 1 := by omega
    try simp (maxDischargeDepth := 8) [↓sC, sB, sM, a1i]
    exact fW
  have a1i : ¬ r.kind < 1 := by omega
  rcases (Decidable.em (r.kind ≤ 9)).symm with a9 | a9
  · have a9i : 9 < r.kind := by omega
    try simp (maxDischargeDepth := 8) [↓sC, sB, sM, a1i, a9i, hm]
    exact fW
  have a9i : ¬ 9 < r.kind := by omega
  try simp (maxDischargeDepth := 8) [↓sC, sB, sM, a1i, a9i, hm, t8]
  refine fields_spec.call ?_
  rintro _ w1 ⟨rfl, f1⟩
  have hm1 : mm w1 (sz w) = rcV r (.slice a r.list.length c) := by rw [f1.mm (by rw [sz_drew]; exact hsW) (by simp), mm_drew, hm]
  have g1 : Fr [] w w1 := fW.drew.trans0 f1
  have hs1 : sz w < sz w1 := f1.lt (by rw [sz_drew]; exact hsW)
  try simp (maxDischargeDepth := 8) [↓sC, sB, sM, hm1, t8]
  refine (only_spec (fields_five a1 a9) hr.2).call ?_
  rintro _ w2 ⟨bb, rfl, hb, f2⟩
  have hm2 : mm w2 (sz w) = rcV r (.slice a r.list.length c) := by rw [f2.mm hs1 (by simp), hm1]
  have g2 := g1.trans0 f2
  have hs2 := f2.lt hs1
  cases bb
  · try simp (maxDischargeDepth := 8) [↓sC, sB, sM]
    exact g2
  have hon := hb rfl
  have hlen : ∀ w, pBuiltin P .len #[9] 3 [strB r.text] w = some (i64 r.text.length, w) := fun w => len_strB und9
  try simp (maxDischargeDepth := 8) [↓sC, sB, sM, hm2]
  by_cases k1 : r.kind = 1
  · have k4 : ¬ r.kind = 4 := by omega
    rcases (Decidable.em (r.text.length ≤ 64)).symm with t1 | t1
    · have t1i : (64 : Int) < r.text.length := by omega
      try simp (maxDischargeDepth := 8) [↓sC, sB, sM, k1, t1i, hm2, hlen]
      exact g2
    have t1i : ¬ (64 : Int) < r.text.length := by omega
    try simp (maxDischargeDepth := 8) [↓sC, sB, sM, k1, t1i, hm2, hlen]
    refine (refProper_spec hr.2.2.2.2.2.1).call ?_
    rintro _ w3 ⟨rfl, f3⟩
    have hm3 : mm w3 (sz w) = rcV r (.slice a r.list.length c) := by rw [f3.mm hs2 (by simp), hm2]
    have g3 := g2.trans0 f3
    have hs3 := f3.lt hs2
    rcases (Decidable.em (r.real = canon r.real)).symm with p | p
    · try simp (maxDischargeDepth := 8) [↓sC, sB, sM, p]
      exact g3
    rw [decide_eq_true p]
    have k8 : r.kind < 8 := by omega
    try simp (maxDischargeDepth := 8) [↓sC, sB, sM, hm3, k8, k1]
    exact ⟨⟨a1, a9, hon, fun _ => t1, fun h => absurd h k4, p, fun h => absurd h (by omega)⟩, g3⟩
  by_cases k4 : r.kind = 4
  · rcases (Decidable.em (-MP ≤ r.low)).symm with b1 | b1
    · have b1i : r.low < -2305843009213693952 := by unfold MP at b1; omega
      try simp (maxDischargeDepth := 8) [↓sC, sB, sM, k4, hm2, wneg_MP, b1i]
      exact g2
    have b1i : ¬ r.low < -2305843009213693952 := by unfold MP at b1; omega
    rcases (Decidable.em (r.high ≤ MP)).symm with b2 | b2
    · have b2i : 2305843009213693952 < r.high := by unfold MP at b2; omega
      try simp (maxDischargeDepth := 8) [↓sC, sB, sM, k4, hm2, wneg_MP, b1i, b2i]
      exact g2
    have b2i : ¬ 2305843009213693952 < r.high := by unfold MP at b2; omega
    rcases (Decidable.em (r.low ≤ r.num)).symm with b3 | b3
    · have b3i : r.num < r.low := by omega
      try simp (maxDischargeDepth := 8) [↓sC, sB, sM, k4, hm2, wneg_MP, b1i, b2i, b3i]
      exact g2
    have b3i : ¬ r.num < r.low := by omega
    rcases (Decidable.em (r.num ≤ r.high)).symm with b4 | b4
    · have b4i : r.high < r.num := by omega
      try simp (maxDischargeDepth := 8) [↓sC, sB, sM, k4, hm2, wneg_MP, b1i, b2i, b3i, b4i]
      exact g2
    have b4i : ¬ r.high < r.num := by omega
    try simp (maxDischargeDepth := 8) [↓sC, sB, sM, k4, hm2, wneg_MP, b1i, b2i, b3i, b4i]
    refine (refProper_spec hr.2.2.2.2.2.1).call ?_
    rintro _ w3 ⟨rfl, f3⟩
    have hm3 : mm w3 (sz w) = rcV r (.slice a r.list.length c) := by rw [f3.mm hs2 (by simp), hm2]
    have g3 := g2.trans0 f3
    have hs3 := f3.lt hs2
    rcases (Decidable.em (r.real = canon r.real)).symm with p | p
    · try simp (maxDischargeDepth := 8) [↓sC, sB, sM, p]
      exact g3
    rw [decide_eq_true p]
    have k8 : r.kind < 8 := by omega
    try simp (maxDischargeDepth := 8) [↓sC, sB, sM, hm3, k8, k4]
    exact ⟨⟨a1, a9, hon, fun h => absurd h k1, fun _ => ⟨b1, b2, b3, b4⟩, p, fun h => absurd h (by omega)⟩, g3⟩
  try simp (maxDischargeDepth := 8) [↓sC, sB, sM, k1, k4, hm2]
  refine (refProper_spec hr.2.2.2.2.2.1).call ?_
  rintro _ w3 ⟨rfl, f3⟩
  have hm3 : mm w3 (sz w) = rcV r (.slice a r.list.length c) := by rw [f3.mm hs2 (by simp), hm2]
  have g3 := g2.trans0 f3
  have hs3 := f3.lt hs2
  rcases (Decidable.em (r.real = canon r.real)).symm with p | p
  · try simp (maxDischargeDepth := 8) [↓sC, sB, sM, p]
    exact g3
  rw [decide_eq_true p]
  by_cases k8 : r.kind < 8
  · try simp (maxDischargeDepth := 8) [↓sC, sB, sM, hm3, k8]
    exact ⟨⟨a1, a9, hon, fun h => absurd h k1, fun h => absurd h k4, p, fun h => absurd h (by omega)⟩, g3⟩
  rcases (Decidable.em (1 ≤ r.cap)).symm with q1 | q1
  · have q1i : r.cap < 1 := by omega
    try simp (maxDischargeDepth := 8) [↓sC, sB, sM, hm3, k8, q1i]
    exact g3
  have q1i : ¬ r.cap < 1 := by omega
  rcases (Decidable.em (r.cap ≤ 32)).symm with q2 | q2
  · have q2i : 32 < r.cap := by omega
    try simp (maxDischargeDepth := 8) [↓sC, sB, sM, hm3, k8, q1i, q2i]
    exact g3
  have q2i : ¬ 32 < r.cap := by omega
  rcases (Decidable.em ((r.list.length : Int) ≤ r.cap)).symm with q3 | q3
  · have q3i : r.cap < (r.list.length : Int) := by omega
    try simp (maxDischargeDepth := 8) [↓sC, sB, sM, hm3, k8, q1i, q2i, q3i]
    exact g3
  have q3i : ¬ r.cap < (r.list.length : Int) := by omega
  try simp (maxDischargeDepth := 8) [↓sC, sB, sM, hm3, k8, q1i, q2i, q3i]
  have hl32 : r.list.length ≤ 32 := by omega
  refine refCheck_list (w := w) (r := r) (a := a) (c := c) (b := sz w) (Nat.le_refl _) hl32 (by simp [put_get]) (by simp [put_get]) hm3 hs3 (hr.fr0 g3) g3 (fun e' w' n hn hf e2 => ?_) (fun e' w' hf hall => ?_)
  · try simp (maxDischargeDepth := 8) [↓sC, sB, sM, e2, hn]
    exact hf
  · try simp (maxDischargeDepth := 8) [↓sC, sB, sM]
    exact ⟨⟨a1, a9, hon, fun h => absurd h k1, fun h => absurd h k4, p, fun _ => ⟨q1, q2, q3, hall⟩⟩, hf⟩
end Go.Proofs.YtieejbkbdfccdaaDoor
