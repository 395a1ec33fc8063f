/- What the functions of package flo compute. -/
import Derived.Test.YtieejbkbdfccdaaDoorSim
import Derived.Test.YtieejbkbdfccdaaDoorTypes
import Derived.Test.YtieejbkbdfccdaaDoorWFlo
import Derived.Test.YtieejbkbdfccdaaDoorFloPrims
import Derived.Laws.FloatBits
set_option linter.unusedVariables false
set_option linter.unusedSimpArgs false
namespace Go.Proofs.YtieejbkbdfccdaaDoor
open Go

theorem add_small {a b r : Nat} (h : fd.add a b = some r) : r < 2 * H63 := Ieee.Format.add_lt fd h
theorem mul_small {a b r : Nat} (h : fd.mul a b = some r) : r < 2 * H63 := Ieee.Format.mul_lt fd h
theorem fbits {w : World} {a : Nat} : pExtern P 62 [fl a] w = some (u64 a, w) := by
  unfold pExtern
  have h := run_callFunc_extern (P := P) (f := 62) (fn := Tryd.f62) (e := Extern.MathFloatBits.float64bits) (by kernel_rfl) (by kernel_rfl) (by kernel_rfl) (by kernel_rfl) (by kernel_rfl) [fl a].toArray w
  rw [h]
  rfl
theorem ffrom {w : World} {a : Nat} : pExtern P 74 [u64 a] w = some (fl a, w) := by
  unfold pExtern
  have h := run_callFunc_extern (P := P) (f := 74) (fn := Tryd.f74) (e := Extern.MathFloatBits.float64frombits) (by kernel_rfl) (by kernel_rfl) (by kernel_rfl) (by kernel_rfl) (by kernel_rfl) [u64 a].toArray w
  rw [h]
  rfl

theorem self_order {a : Nat} : (fd.order a a != some .eq) = isN a := by
  cases h : isN a with
  | true => rw [order_nan (.inl h)]; rfl
  | false => rw [order_num h h, cmp_eq rfl]; rfl

theorem nan_spec {w : World} : Ret P 42 #[] w fun v w' => v = fl NAN ∧ Fr [] w w' := by
  refine F42ok ?_
  unfold F42
  have : pExtern P 74 [Value.int IntKind.u64 9221120237041090561] w = some (fl NAN, w) := ffrom (a := NAN)
  simp (maxDischargeDepth := 8) [↓sC, sB, sM, this]

theorem canon_spec {w : World} {a : Nat} : Ret P 76 #[fl a] w fun v w' => v = fl (canon a) ∧ Fr [] w w' := by
  refine F76ok ?_
  unfold F76
  cases h : isN a with
  | true =>
    simp (maxDischargeDepth := 8) [↓sC, sB, sM, fne, self_order, h]
    refine nan_spec.call ?_
    rintro _ w' ⟨rfl, hf⟩
    simp (maxDischargeDepth := 8) [↓sC, sB, sM, canon, h, hf]
  | false =>
    simp (maxDischargeDepth := 8) [↓sC, sB, sM, fne, self_order, h, canon]

theorem key_spec {w : World} {a : Nat} (ha : a < 2 * H63) : Ret P 66 #[fl a] w fun v w' => v = u64 (key a) ∧ Fr [] w w' := by
  refine F66ok ?_
  unfold F66
  refine canon_spec.call ?_
  rintro _ w' ⟨rfl, hf⟩
  have hc := canon_lt ha
  by_cases h : canon a < H63
  · simp (maxDischargeDepth := 8) [↓sC, sB, sM, fbits, pAnd hc, h, pOr h, key, hf]
  · have hne : ¬ H63 = 0 := by decide
    simp (maxDischargeDepth := 8) [↓sC, sB, sM, fbits, pAnd hc, h, hne, pXor hc, key, hf]

theorem nat_eq_dec (a b : Nat) : decide ((a : Int) = (b : Int)) = decide (a = b) := by simp [Int.natCast_inj]

theorem proper_spec {w : World} {a : Nat} (ha : a < 2 * H63) : Ret P 49 #[fl a] w fun v w' => v = .bool (decide (a = canon a)) ∧ Fr [] w w' := by
  refine F49ok ?_
  unfold F49
  simp (maxDischargeDepth := 8) [↓sC, sB, sM, fbits]
  refine canon_spec.call ?_
  rintro _ w1 ⟨rfl, hf1⟩
  simp (maxDischargeDepth := 8) [↓sC, sB, sM, fbits, hf1, Int.natCast_inj]
def backB (k : Nat) : Nat := if k < H63 then 18446744073709551615 - k else k % H63
theorem backB_lt {k : Nat} (h : k < 2 * H63) : backB k < 2 * H63 := by
  unfold backB
  by_cases hk : k < H63
  · rw [if_pos hk]; unfold H63; omega
  · rw [if_neg hk]; have := Nat.mod_lt k (show 0 < H63 by decide); omega
theorem less_spec {w : World} {a b : Nat} (ha : a < 2 * H63) (hb : b < 2 * H63) : Ret P 75 #[fl a, fl b] w fun v w' => v = .bool (decide (key a < key b)) ∧ Fr [] w w' := by
  refine F75ok ?_
  unfold F75
  refine (key_spec ha).call ?_
  rintro _ w1 ⟨rfl, hf1⟩
  refine (key_spec hb).call ?_
  rintro _ w2 ⟨rfl, hf2⟩
  simp (maxDischargeDepth := 8) [↓sC, sB, sM, hf1.trans0 hf2]
theorem same_spec {w : World} {a b : Nat} (ha : a < 2 * H63) (hb : b < 2 * H63) : Ret P 33 #[fl a, fl b] w fun v w' => v = .bool (decide (key a = key b)) ∧ Fr [] w w' := by
  refine F33ok ?_
  unfold F33
  refine (key_spec ha).call ?_
  rintro _ w1 ⟨rfl, hf1⟩
  refine (key_spec hb).call ?_
  rintro _ w2 ⟨rfl, hf2⟩
  simp (maxDischargeDepth := 8) [↓sC, sB, sM, hf1.trans0 hf2, Int.natCast_inj]
theorem plus_spec {w : World} {a b : Nat} : Ret P 89 #[fl a, fl b] w fun v w' => v = fl (one (fd.add a b)) ∧ Fr [] w w' := by
  refine F89ok ?_
  unfold F89
  obtain ⟨r, w1, hr, hf, hlt, hc⟩ := fadd (P := P) (t := 22) (w := w) (lit := false) (a := a) (b := b) (fun r h => add_small h)
  simp (maxDischargeDepth := 8) [↓sC, sB, sM, hr]
  refine canon_spec.call ?_
  rintro _ w2 ⟨rfl, hf2⟩
  simp (maxDischargeDepth := 8) [↓sC, sB, sM, hc, hf.trans0 hf2]
theorem times_spec {w : World} {a b : Nat} : Ret P 90 #[fl a, fl b] w fun v w' => v = fl (one (fd.mul a b)) ∧ Fr [] w w' := by
  refine F90ok ?_
  unfold F90
  obtain ⟨r, w1, hr, hf, hlt, hc⟩ := fmul (P := P) (t := 22) (w := w) (lit := false) (a := a) (b := b) (fun r h => mul_small h)
  simp (maxDischargeDepth := 8) [↓sC, sB, sM, hr]
  refine canon_spec.call ?_
  rintro _ w2 ⟨rfl, hf2⟩
  simp (maxDischargeDepth := 8) [↓sC, sB, sM, hc, hf.trans0 hf2]
theorem max_spec {w : World} {a b : Nat} (ha : a < 2 * H63) (hb : b < 2 * H63) : Ret P 44 #[fl a, fl b] w fun v w' => v = fl (canon (if key a < key b then b else a)) ∧ Fr [] w w' := by
  refine F44ok ?_
  unfold F44
  refine (less_spec ha hb).call ?_
  rintro _ w1 ⟨rfl, hf1⟩
  by_cases h : key a < key b
  all_goals
    simp (maxDischargeDepth := 8) [↓sC, sB, sM, h]
    refine canon_spec.call ?_
    rintro _ w2 ⟨rfl, hf2⟩
    simp (maxDischargeDepth := 8) [↓sC, sB, sM, h, hf1.trans0 hf2]
theorem min_spec {w : World} {a b : Nat} (ha : a < 2 * H63) (hb : b < 2 * H63) : Ret P 45 #[fl a, fl b] w fun v w' => v = fl (canon (if key b < key a then b else a)) ∧ Fr [] w w' := by
  refine F45ok ?_
  unfold F45
  refine (less_spec hb ha).call ?_
  rintro _ w1 ⟨rfl, hf1⟩
  by_cases h : key b < key a
  all_goals
    simp (maxDischargeDepth := 8) [↓sC, sB, sM, h]
    refine canon_spec.call ?_
    rintro _ w2 ⟨rfl, hf2⟩
    simp (maxDischargeDepth := 8) [↓sC, sB, sM, h, hf1.trans0 hf2]

theorem key_num {a : Nat} (ha : a < 2 * H63) (h : isN a = false) : key a ≤ INF + H63 := by
  have h2 : a % H63 ≤ INF := by unfold isN at h; simpa using h
  unfold key canon
  rw [h]
  simp only [Bool.false_eq_true, if_false]
  unfold H63 INF at *
  split <;> omega
theorem key_back {a : Nat} (ha : a < 2 * H63) : backB (key a) = canon a := by
  have hc := canon_lt ha
  unfold backB key
  unfold H63 at *
  by_cases h : canon a < 9223372036854775808
  · simp only [h, if_true]
    have : ¬ canon a + 9223372036854775808 < 9223372036854775808 := by omega
    rw [if_neg this]
    omega
  · simp only [h, if_false]
    have : 18446744073709551615 - canon a < 9223372036854775808 := by omega
    rw [if_pos this]
    omega
def above (a : Nat) : Nat := if isN a then NAN else if key (backB (key a + 1)) = key a + 1 then backB (key a + 1) else NAN
/-! ### The document's answer -/
theorem none_spec {w : World} {a : Nat} : Ret P 61 #[fl a] w fun v w' => v = .bool (isN a) ∧ Fr [] w w' := by
  refine F61ok ?_
  unfold F61
  simp (maxDischargeDepth := 8) [↓sC, sB, sM, fne, self_order]
theorem oi_lt {a : Nat} (h : a < H63) : oi a = a := by
  unfold oi neg
  have h1 : a / H63 = 0 := Nat.div_eq_of_lt h
  have h2 : a % H63 = a := Nat.mod_eq_of_lt h
  simp [h1, h2]
theorem oi_ge {a : Nat} (h : H63 ≤ a) (h2 : a < 2 * H63) : oi a = -((a - H63 : Nat) : Int) := by
  unfold oi neg
  have h1 : a / H63 = 1 := by unfold H63 at *; omega
  have h2 : a % H63 = a - H63 := by unfold H63 at *; omega
  simp [h1, h2]
theorem zero_order {a : Nat} (ha : a < 2 * H63) (h : isN a = false) : (fd.order a 0 == some .eq) = decide (a = 0 ∨ a = H63) := by
  rw [order_num h (by decide)]
  have h0 : oi 0 = 0 := rfl
  rw [h0]
  by_cases hp : a < H63
  · rw [oi_lt hp]
    by_cases hz : a = 0
    · subst hz; rfl
    · rw [cmp_gt (by omega)]
      have : ¬ a = H63 := by omega
      simp [hz, this]
  · rw [oi_ge (by omega) ha]
    by_cases hz : a = H63
    · subst hz; rfl
    · rw [cmp_lt (by unfold H63 at *; omega)]
      have : ¬ a = 0 := by unfold H63 at *; omega
      simp [hz, this]
theorem lt_order {a b : Nat} (ha : a < 2 * H63) (hb : b < 2 * H63) (hna : isN a = false) (hnb : isN b = false) (hz : ¬ ((a = 0 ∨ a = H63) ∧ (b = 0 ∨ b = H63))) :
    (fd.order a b == some .lt) = decide (key a < key b) := by
  rw [order_num hna hnb]
  have hka : key a = if a < H63 then a + H63 else 18446744073709551615 - a := by unfold key canon; rw [hna]; rfl
  have hkb : key b = if b < H63 then b + H63 else 18446744073709551615 - b := by unfold key canon; rw [hnb]; rfl
  have hiff : oi a < oi b ↔ key a < key b := by
    rw [hka, hkb]
    by_cases h1 : a < H63 <;> by_cases h2 : b < H63
    · rw [oi_lt h1, oi_lt h2]; simp only [h1, h2, if_true]; omega
    · rw [oi_lt h1, oi_ge (by omega) hb]; simp only [h1, h2, if_true, if_false]; unfold H63 at *; omega
    · rw [oi_ge (by omega) ha, oi_lt h2]; simp only [h1, h2, if_true, if_false]; unfold H63 at *; omega
    · rw [oi_ge (by omega) ha, oi_ge (by omega) hb]; simp only [h1, h2, if_false]; unfold H63 at *; omega
  rcases Int.lt_trichotomy (oi a) (oi b) with h | h | h
  · rw [cmp_lt h]; have := hiff.1 h; simp [this]
  · rw [cmp_eq h]
    have : ¬ key a < key b := fun hk => by have := hiff.2 hk; omega
    simp [this]
  · rw [cmp_gt h]
    have : ¬ key a < key b := fun hk => by have := hiff.2 hk; omega
    simp [this]

theorem below_spec {w : World} {a : Nat} (ha : a = 0 ∨ a = H63) : Ret P 78 #[fl a] w fun v w' => v = .bool (decide (a = H63)) ∧ Fr [] w w' := by
  refine F78ok ?_
  unfold F78
  rcases ha with rfl | rfl
  · have h1 : (fd.order 0 0 == some .eq) = true := by decide
    have h2 : fd.div 4607182418800017408 0 = some INF := by decide +kernel
    have h3 : (fd.order INF 0 == some .lt) = false := by decide +kernel
    have h4 : ¬ (0 = H63) := by decide
    simp (maxDischargeDepth := 8) [↓sC, sB, sM, feq, h1, fdiv h2, flt, h3, h4]
  · have h1 : (fd.order H63 0 == some .eq) = true := by decide +kernel
    have h2 : fd.div 4607182418800017408 H63 = some (INF + H63) := by decide +kernel
    have h3 : (fd.order (INF + H63) 0 == some .lt) = true := by decide +kernel
    simp (maxDischargeDepth := 8) [↓sC, sB, sM, feq, h1, fdiv h2, flt, h3]
theorem key_nan {a : Nat} (h : isN a = true) : key a = NAN + H63 := by
  unfold key canon
  rw [h]
  rfl
theorem refLess_spec {w : World} {a b : Nat} (ha : a < 2 * H63) (hb : b < 2 * H63) : Ret P 60 #[fl a, fl b] w fun v w' => v = .bool (decide (key a < key b)) ∧ Fr [] w w' := by
  refine F60ok ?_
  unfold F60
  refine none_spec.call ?_
  rintro _ w1 ⟨rfl, hf1⟩
  cases hna : isN a with
  | true =>
    have hk : ¬ key a < key b := by
      rw [key_nan hna]
      cases hnb : isN b with
      | true => rw [key_nan hnb]; omega
      | false => have := key_num hb hnb; unfold INF NAN H63 at *; omega
    simp (maxDischargeDepth := 8) [↓sC, sB, sM, hk, hf1]
  | false =>
    simp (maxDischargeDepth := 8) [↓sC, sB, sM]
    refine none_spec.call ?_
    rintro _ w2 ⟨rfl, hf2⟩
    have hf12 := hf1.trans0 hf2
    cases hnb : isN b with
    | true =>
      have hk : key a < key b := by
        rw [key_nan hnb]
        have := key_num ha hna
        unfold INF NAN H63 at *
        omega
      simp (maxDischargeDepth := 8) [↓sC, sB, sM, hk, hf12]
    | false =>
      by_cases hza : a = 0 ∨ a = H63
      · have d1 := zero_order ha hna
        simp only [hza, decide_true] at d1
        by_cases hzb : b = 0 ∨ b = H63
        · have d2 := zero_order hb hnb
          simp only [hzb, decide_true] at d2
          simp (maxDischargeDepth := 8) [↓sC, sB, sM, feq, d1, d2]
          refine (below_spec hza).call ?_
          rintro _ w3 ⟨rfl, hf3⟩
          have k0 : key 0 = H63 := by decide
          have k1 : key H63 = H63 - 1 := by decide
          have e1 : ¬ (0 = H63) := by decide
          have e2 : H63 - 1 < H63 := by decide
          have e3 : ¬ (H63 < H63 - 1) := by decide
          rcases hza with rfl | rfl
          · rcases hzb with rfl | rfl <;> simp (maxDischargeDepth := 8) [↓sC, sB, sM, k0, k1, e1, e3, hf12.trans0 hf3]
          · simp (maxDischargeDepth := 8) [↓sC, sB, sM]
            refine (below_spec hzb).call ?_
            rintro _ w4 ⟨rfl, hf4⟩
            rcases hzb with rfl | rfl <;> simp (maxDischargeDepth := 8) [↓sC, sB, sM, k0, k1, e1, e2, (hf12.trans0 hf3).trans0 hf4]
        · have d2 := zero_order hb hnb
          simp only [hzb, decide_false] at d2
          have d3 := lt_order ha hb hna hnb (fun h => hzb h.2)
          simp (maxDischargeDepth := 8) [↓sC, sB, sM, feq, flt, d1, d2, d3, hf12]
      · have d1 := zero_order ha hna
        simp only [hza, decide_false] at d1
        have d3 := lt_order ha hb hna hnb (fun h => hza h.1)
        simp (maxDischargeDepth := 8) [↓sC, sB, sM, feq, flt, d1, d3, hf12]
theorem refSame_spec {w : World} {a b : Nat} (ha : a < 2 * H63) (hb : b < 2 * H63) : Ret P 29 #[fl a, fl b] w fun v w' => v = .bool (decide (key a = key b)) ∧ Fr [] w w' := by
  refine F29ok ?_
  unfold F29
  refine (refLess_spec ha hb).call ?_
  rintro _ w1 ⟨rfl, hf1⟩
  by_cases h : key a < key b
  · have h2 : ¬ key a = key b := by omega
    simp (maxDischargeDepth := 8) [↓sC, sB, sM, h, h2, hf1]
  · simp (maxDischargeDepth := 8) [↓sC, sB, sM, h]
    refine (refLess_spec hb ha).call ?_
    rintro _ w2 ⟨rfl, hf2⟩
    by_cases h3 : key b < key a
    · have h2 : ¬ key a = key b := by omega
      simp (maxDischargeDepth := 8) [↓sC, sB, sM, h2, h3, hf1.trans0 hf2]
    · have h2 : key a = key b := by omega
      simp (maxDischargeDepth := 8) [↓sC, sB, sM, h2, h3, hf1.trans0 hf2]
end Go.Proofs.YtieejbkbdfccdaaDoor
