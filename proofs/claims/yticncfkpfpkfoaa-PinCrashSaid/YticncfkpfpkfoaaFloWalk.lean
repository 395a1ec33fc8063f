/- What the functions of package flo compute. -/
import Derived.Test.YticncfkpfpkfoaaSim
import Derived.Test.YticncfkpfpkfoaaTypes
import Derived.Test.YticncfkpfpkfoaaWFlo
import Derived.Test.YticncfkpfpkfoaaFloPrims
import Derived.Laws.FloatBits
set_option linter.unusedVariables false
set_option linter.unusedSimpArgs false
namespace Go.Proofs.Yticncfkpfpkfoaa
open Go

theorem add_small {a b r : Nat} (h : fd.add a b = some r) : r < 2 * H63 := Ieee.Format.add_lt fd h
theorem mul_small {a b r : Nat} (h : fd.mul a b = some r) : r < 2 * H63 := Ieee.Format.mul_lt fd h
theorem fbits {w : World} {a : Nat} : pExtern P 107 [fl a] w = some (u64 a, w) := by
  unfold pExtern
  have h := run_callFunc_extern (P := P) (f := 107) (fn := Try.f107) (e := Extern.MathFloatBits.float64bits) (by kernel_rfl) (by kernel_rfl) (by kernel_rfl) (by kernel_rfl) (by kernel_rfl) [fl a].toArray w
  rw [h]
  rfl
theorem ffrom {w : World} {a : Nat} : pExtern P 105 [u64 a] w = some (fl a, w) := by
  unfold pExtern
  have h := run_callFunc_extern (P := P) (f := 105) (fn := Try.f105) (e := Extern.MathFloatBits.float64frombits) (by kernel_rfl) (by kernel_rfl) (by kernel_rfl) (by kernel_rfl) (by kernel_rfl) [u64 a].toArray w
  rw [h]
  rfl

theorem self_order {a : Nat} : (fd.order a a != some .eq) = isN a := by
  cases h : isN a with
  | true => rw [order_nan (.inl h)]; rfl
  | false => rw [order_num h h, cmp_eq rfl]; rfl

theorem nan_spec {w : World} : Ret P 109 #[] w fun v w' => v = fl NAN ∧ Fr [] w w' := by
  refine F109ok ?_
  unfold F109
  have : pExtern P 105 [Value.int IntKind.u64 9221120237041090561] w = some (fl NAN, w) := ffrom (a := NAN)
  simp (maxDischargeDepth := 8) [↓sC, sB, sM, this]

theorem canon_spec {w : World} {a : Nat} : Ret P 108 #[fl a] w fun v w' => v = fl (canon a) ∧ Fr [] w w' := by
  refine F108ok ?_
  unfold F108
  cases h : isN a with
  | true =>
    simp (maxDischargeDepth := 8) [↓sC, sB, sM, fne, self_order, h]
    refine nan_spec.call ?_
    rintro _ w' ⟨rfl, hf⟩
    simp (maxDischargeDepth := 8) [↓sC, sB, sM, canon, h, hf]
  | false =>
    simp (maxDischargeDepth := 8) [↓sC, sB, sM, fne, self_order, h, canon]

theorem key_spec {w : World} {a : Nat} (ha : a < 2 * H63) : Ret P 106 #[fl a] w fun v w' => v = u64 (key a) ∧ Fr [] w w' := by
  refine F106ok ?_
  unfold F106
  refine canon_spec.call ?_
  rintro _ w' ⟨rfl, hf⟩
  have hc := canon_lt ha
  by_cases h : canon a < H63
  · simp (maxDischargeDepth := 8) [↓sC, sB, sM, fbits, pAnd hc, h, pOr h, key, hf]
  · have hne : ¬ H63 = 0 := by decide
    simp (maxDischargeDepth := 8) [↓sC, sB, sM, fbits, pAnd hc, h, hne, pXor hc, key, hf]

theorem nat_eq_dec (a b : Nat) : decide ((a : Int) = (b : Int)) = decide (a = b) := by simp [Int.natCast_inj]

def backB (k : Nat) : Nat := if k < H63 then 18446744073709551615 - k else k % H63
theorem backB_lt {k : Nat} (h : k < 2 * H63) : backB k < 2 * H63 := by
  unfold backB
  by_cases hk : k < H63
  · rw [if_pos hk]; unfold H63; omega
  · rw [if_neg hk]; have := Nat.mod_lt k (show 0 < H63 by decide); omega
theorem back_spec {w : World} {k : Nat} (h : k < 2 * H63) :
    Ret P 104 #[u64 k] w fun v w' => v = .tuple #[fl (if key (backB k) = k then backB k else 0), .bool (decide (key (backB k) = k))] ∧ Fr [] w w' := by
  refine F104ok ?_
  unfold F104
  have hb := backB_lt h
  have hne : ¬ H63 = 0 := by decide
  by_cases hk : k < H63
  · have hbk : backB k = 18446744073709551615 - k := by rw [backB, if_pos hk]
    simp (maxDischargeDepth := 8) [↓sC, sB, sM, pXor h, pAnd h, pAndNot h, hk, ffrom, ← hbk]
    refine (key_spec hb).call ?_
    rintro _ w1 ⟨rfl, hf1⟩
    by_cases hkk : key (backB k) = k
    · simp (maxDischargeDepth := 8) [↓sC, sB, sM, hkk, hf1]
    · simp (maxDischargeDepth := 8) [↓sC, sB, sM, hkk, hf1, Int.natCast_inj]
  · have hbk : backB k = k % H63 := by rw [backB, if_neg hk]
    simp (maxDischargeDepth := 8) [↓sC, sB, sM, pXor h, pAnd h, pAndNot h, hk, hne, ffrom, ← hbk]
    refine (key_spec hb).call ?_
    rintro _ w1 ⟨rfl, hf1⟩
    by_cases hkk : key (backB k) = k
    · simp (maxDischargeDepth := 8) [↓sC, sB, sM, hkk, hf1]
    · simp (maxDischargeDepth := 8) [↓sC, sB, sM, hkk, hf1, Int.natCast_inj]
theorem key_num {a : Nat} (ha : a < 2 * H63) (h : isN a = false) : key a ≤ INF + H63 := by
  have h2 : a % H63 ≤ INF := by unfold isN at h; simpa using h
  unfold key canon
  rw [h]
  simp only [Bool.false_eq_true, if_false]
  unfold H63 INF at *
  split <;> omega
theorem key_back {a : Nat} (ha : a < 2 * H63) : backB (key a) = canon a := by
  have hc := canon_lt ha
  unfold backB key
  unfold H63 at *
  by_cases h : canon a < 9223372036854775808
  · simp only [h, if_true]
    have : ¬ canon a + 9223372036854775808 < 9223372036854775808 := by omega
    rw [if_neg this]
    omega
  · simp only [h, if_false]
    have : 18446744073709551615 - canon a < 9223372036854775808 := by omega
    rw [if_pos this]
    omega
def above (a : Nat) : Nat := if isN a then NAN else if key (backB (key a + 1)) = key a + 1 then backB (key a + 1) else NAN
theorem oi_lt {a : Nat} (h : a < H63) : oi a = a := by
  unfold oi neg
  have h1 : a / H63 = 0 := Nat.div_eq_of_lt h
  have h2 : a % H63 = a := Nat.mod_eq_of_lt h
  simp [h1, h2]
theorem oi_ge {a : Nat} (h : H63 ≤ a) (h2 : a < 2 * H63) : oi a = -((a - H63 : Nat) : Int) := by
  unfold oi neg
  have h1 : a / H63 = 1 := by unfold H63 at *; omega
  have h2 : a % H63 = a - H63 := by unfold H63 at *; omega
  simp [h1, h2]
theorem zero_order {a : Nat} (ha : a < 2 * H63) (h : isN a = false) : (fd.order a 0 == some .eq) = decide (a = 0 ∨ a = H63) := by
  rw [order_num h (by decide)]
  have h0 : oi 0 = 0 := rfl
  rw [h0]
  by_cases hp : a < H63
  · rw [oi_lt hp]
    by_cases hz : a = 0
    · subst hz; rfl
    · rw [cmp_gt (by omega)]
      have : ¬ a = H63 := by omega
      simp [hz, this]
  · rw [oi_ge (by omega) ha]
    by_cases hz : a = H63
    · subst hz; rfl
    · rw [cmp_lt (by unfold H63 at *; omega)]
      have : ¬ a = 0 := by unfold H63 at *; omega
      simp [hz, this]
theorem lt_order {a b : Nat} (ha : a < 2 * H63) (hb : b < 2 * H63) (hna : isN a = false) (hnb : isN b = false) (hz : ¬ ((a = 0 ∨ a = H63) ∧ (b = 0 ∨ b = H63))) :
    (fd.order a b == some .lt) = decide (key a < key b) := by
  rw [order_num hna hnb]
  have hka : key a = if a < H63 then a + H63 else 18446744073709551615 - a := by unfold key canon; rw [hna]; rfl
  have hkb : key b = if b < H63 then b + H63 else 18446744073709551615 - b := by unfold key canon; rw [hnb]; rfl
  have hiff : oi a < oi b ↔ key a < key b := by
    rw [hka, hkb]
    by_cases h1 : a < H63 <;> by_cases h2 : b < H63
    · rw [oi_lt h1, oi_lt h2]; simp only [h1, h2, if_true]; omega
    · rw [oi_lt h1, oi_ge (by omega) hb]; simp only [h1, h2, if_true, if_false]; unfold H63 at *; omega
    · rw [oi_ge (by omega) ha, oi_lt h2]; simp only [h1, h2, if_true, if_false]; unfold H63 at *; omega
    · rw [oi_ge (by omega) ha, oi_ge (by omega) hb]; simp only [h1, h2, if_false]; unfold H63 at *; omega
  rcases Int.lt_trichotomy (oi a) (oi b) with h | h | h
  · rw [cmp_lt h]; have := hiff.1 h; simp [this]
  · rw [cmp_eq h]
    have : ¬ key a < key b := fun hk => by have := hiff.2 hk; omega
    simp [this]
  · rw [cmp_gt h]
    have : ¬ key a < key b := fun hk => by have := hiff.2 hk; omega
    simp [this]

theorem key_nan {a : Nat} (h : isN a = true) : key a = NAN + H63 := by
  unfold key canon
  rw [h]
  rfl
end Go.Proofs.Yticncfkpfpkfoaa
