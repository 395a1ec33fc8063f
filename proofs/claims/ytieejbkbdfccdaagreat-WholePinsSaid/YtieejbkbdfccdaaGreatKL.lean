/- What the functions of package flo compute. -/
import Derived.Test.YtieejbkbdfccdaaGreatSim
import Derived.Test.YtieejbkbdfccdaaGreatTypes
import Derived.Test.YtieejbkbdfccdaaGreatKF
import Derived.Test.YtieejbkbdfccdaaGreatFloPrims
import Derived.Laws.FloatBits
import Derived.Test.YtieejbkbdfccdaaGreatFloBits
import Derived.Test.YtieejbkbdfccdaaGreatPrims4
set_option linter.unusedVariables false
set_option linter.unusedSimpArgs false
namespace Go.Proofs.YtieejbkbdfccdaaGreat
open Go
theorem fbits {w : World} {a : Nat} : pExtern P 91 [fl a] w = some (u64 a, w) := by
  unfold pExtern
  have h := run_callFunc_extern (P := P) (f := 91) (fn := Tryz.f91) (e := Extern.MathFloatBits.float64bits) (by kernel_rfl) (by kernel_rfl) (by kernel_rfl) (by kernel_rfl) (by kernel_rfl) [fl a].toArray w
  rw [h]
  rfl
theorem ffrom {w : World} {a : Nat} : pExtern P 105 [u64 a] w = some (fl a, w) := by
  unfold pExtern
  have h := run_callFunc_extern (P := P) (f := 105) (fn := Tryz.f105) (e := Extern.MathFloatBits.float64frombits) (by kernel_rfl) (by kernel_rfl) (by kernel_rfl) (by kernel_rfl) (by kernel_rfl) [u64 a].toArray w
  rw [h]
  rfl
theorem self_order {a : Nat} : (fd.order a a != some .eq) = isN a := by
  cases h : isN a with
  | true => rw [order_nan (.inl h)]; rfl
  | false => rw [order_num h h, cmp_eq rfl]; rfl
theorem nan_spec {w : World} : Ret P 103 #[] w fun v w' => v = fl NAN ∧ Fr [] w w' := by
  refine F103ok ?_
  unfold F103
  have : pExtern P 105 [Value.int IntKind.u64 9221120237041090561] w = some (fl NAN, w) := ffrom (a := NAN)
  simp (maxDischargeDepth := 8) [↓sC, sB, sM, this]
theorem canon_spec {w : World} {a : Nat} : Ret P 92 #[fl a] w fun v w' => v = fl (canon a) ∧ Fr [] w w' := by
  refine F92ok ?_
  unfold F92
  cases h : isN a with
  | true =>
    simp (maxDischargeDepth := 8) [↓sC, sB, sM, fne, self_order, h]
    refine nan_spec.call ?_
    rintro _ w' ⟨rfl, hf⟩
    simp (maxDischargeDepth := 8) [↓sC, sB, sM, canon, h, hf]
  | false =>
    simp (maxDischargeDepth := 8) [↓sC, sB, sM, fne, self_order, h, canon]
theorem key_spec {w : World} {a : Nat} (ha : a < 2 * H63) : Ret P 98 #[fl a] w fun v w' => v = u64 (key a) ∧ Fr [] w w' := by
  refine F98ok ?_
  unfold F98
  refine canon_spec.call ?_
  rintro _ w' ⟨rfl, hf⟩
  have hc := canon_lt ha
  by_cases h : canon a < H63
  · simp (maxDischargeDepth := 8) [↓sC, sB, sM, fbits, pAnd hc, h, pOr h, key, hf]
  · have hne : ¬ H63 = 0 := by decide
    simp (maxDischargeDepth := 8) [↓sC, sB, sM, fbits, pAnd hc, h, hne, pXor hc, key, hf]
theorem nat_eq_dec (a b : Nat) : decide ((a : Int) = (b : Int)) = decide (a = b) := by simp [Int.natCast_inj]
theorem proper_spec {w : World} {a : Nat} (ha : a < 2 * H63) : Ret P 69 #[fl a] w fun v w' => v = .bool (decide (a = canon a)) ∧ Fr [] w w' := by
  refine F69ok ?_
  unfold F69
  simp (maxDischargeDepth := 8) [↓sC, sB, sM, fbits]
  refine canon_spec.call ?_
  rintro _ w1 ⟨rfl, hf1⟩
  simp (maxDischargeDepth := 8) [↓sC, sB, sM, fbits, hf1, Int.natCast_inj]
def backB (k : Nat) : Nat := if k < H63 then 18446744073709551615 - k else k % H63
theorem backB_lt {k : Nat} (h : k < 2 * H63) : backB k < 2 * H63 := by
  unfold backB
  by_cases hk : k < H63
  · rw [if_pos hk]; unfold H63; omega
  · rw [if_neg hk]; have := Nat.mod_lt k (show 0 < H63 by decide); omega
theorem less_spec {w : World} {a b : Nat} (ha : a < 2 * H63) (hb : b < 2 * H63) : Ret P 104 #[fl a, fl b] w fun v w' => v = .bool (decide (key a < key b)) ∧ Fr [] w w' := by
  refine F104ok ?_
  unfold F104
  refine (key_spec ha).call ?_
  rintro _ w1 ⟨rfl, hf1⟩
  refine (key_spec hb).call ?_
  rintro _ w2 ⟨rfl, hf2⟩
  simp (maxDischargeDepth := 8) [↓sC, sB, sM, hf1.trans0 hf2]
theorem same_spec {w : World} {a b : Nat} (ha : a < 2 * H63) (hb : b < 2 * H63) : Ret P 90 #[fl a, fl b] w fun v w' => v = .bool (decide (key a = key b)) ∧ Fr [] w w' := by
  refine F90ok ?_
  unfold F90
  refine (key_spec ha).call ?_
  rintro _ w1 ⟨rfl, hf1⟩
  refine (key_spec hb).call ?_
  rintro _ w2 ⟨rfl, hf2⟩
  simp (maxDischargeDepth := 8) [↓sC, sB, sM, hf1.trans0 hf2, Int.natCast_inj]
theorem back_spec {w : World} {k : Nat} (h : k < 2 * H63) :
    Ret P 101 #[u64 k] w fun v w' => v = .tuple #[fl (if key (backB k) = k then backB k else 0), .bool (decide (key (backB k) = k))] ∧ Fr [] w w' := by
  refine F101ok ?_
  unfold F101
  have hb := backB_lt h
  have hne : ¬ H63 = 0 := by decide
  by_cases hk : k < H63
  · have hbk : backB k = 18446744073709551615 - k := by rw [backB, if_pos hk]
    simp (maxDischargeDepth := 8) [↓sC, sB, sM, pXor h, pAnd h, pAndNot h, hk, ffrom, ← hbk]
    refine (key_spec hb).call ?_
    rintro _ w1 ⟨rfl, hf1⟩
    by_cases hkk : key (backB k) = k
    · simp (maxDischargeDepth := 8) [↓sC, sB, sM, hkk, hf1]
    · simp (maxDischargeDepth := 8) [↓sC, sB, sM, hkk, hf1, Int.natCast_inj]
  · have hbk : backB k = k % H63 := by rw [backB, if_neg hk]
    simp (maxDischargeDepth := 8) [↓sC, sB, sM, pXor h, pAnd h, pAndNot h, hk, hne, ffrom, ← hbk]
    refine (key_spec hb).call ?_
    rintro _ w1 ⟨rfl, hf1⟩
    by_cases hkk : key (backB k) = k
    · simp (maxDischargeDepth := 8) [↓sC, sB, sM, hkk, hf1]
    · simp (maxDischargeDepth := 8) [↓sC, sB, sM, hkk, hf1, Int.natCast_inj]
theorem key_num {a : Nat} (ha : a < 2 * H63) (h : isN a = false) : key a ≤ INF + H63 := by
  have h2 : a % H63 ≤ INF := by unfold isN at h; simpa using h
  unfold key canon
  rw [h]
  simp only [Bool.false_eq_true, if_false]
  unfold H63 INF at *
  split <;> omega
theorem key_back {a : Nat} (ha : a < 2 * H63) : backB (key a) = canon a := by
  have hc := canon_lt ha
  unfold backB key
  unfold H63 at *
  by_cases h : canon a < 9223372036854775808
  · simp only [h, if_true]
    have : ¬ canon a + 9223372036854775808 < 9223372036854775808 := by omega
    rw [if_neg this]
    omega
  · simp only [h, if_false]
    have : 18446744073709551615 - canon a < 9223372036854775808 := by omega
    rw [if_pos this]
    omega
/-! ### The document's answer -/
theorem none_spec {w : World} {a : Nat} : Ret P 96 #[fl a] w fun v w' => v = .bool (isN a) ∧ Fr [] w w' := by
  refine F96ok ?_
  unfold F96
  simp (maxDischargeDepth := 8) [↓sC, sB, sM, fne, self_order]
theorem oi_lt {a : Nat} (h : a < H63) : oi a = a := by
  unfold oi neg
  have h1 : a / H63 = 0 := Nat.div_eq_of_lt h
  have h2 : a % H63 = a := Nat.mod_eq_of_lt h
  simp [h1, h2]
theorem oi_ge {a : Nat} (h : H63 ≤ a) (h2 : a < 2 * H63) : oi a = -((a - H63 : Nat) : Int) := by
  unfold oi neg
  have h1 : a / H63 = 1 := by unfold H63 at *; omega
  have h2 : a % H63 = a - H63 := by unfold H63 at *; omega
  simp [h1, h2]
theorem zero_order {a : Nat} (ha : a < 2 * H63) (h : isN a = false) : (fd.order a 0 == some .eq) = decide (a = 0 ∨ a = H63) := by
  rw [order_num h (by decide)]
  have h0 : oi 0 = 0 := rfl
  rw [h0]
  by_cases hp : a < H63
  · rw [oi_lt hp]
    by_cases hz : a = 0
    · subst hz; rfl
    · rw [cmp_gt (by omega)]
      have : ¬ a = H63 := by omega
      simp [hz, this]
  · rw [oi_ge (by omega) ha]
    by_cases hz : a = H63
    · subst hz; rfl
    · rw [cmp_lt (by unfold H63 at *; omega)]
      have : ¬ a = 0 := by unfold H63 at *; omega
      simp [hz, this]
theorem lt_order {a b : Nat} (ha : a < 2 * H63) (hb : b < 2 * H63) (hna : isN a = false) (hnb : isN b = false) (hz : ¬ ((a = 0 ∨ a = H63) ∧ (b = 0 ∨ b = H63))) :
    (fd.order a b == some .lt) = decide (key a < key b) := by
  rw [order_num hna hnb]
  have hka : key a = if a < H63 then a + H63 else 18446744073709551615 - a := by unfold key canon; rw [hna]; rfl
  have hkb : key b = if b < H63 then b + H63 else 18446744073709551615 - b := by unfold key canon; rw [hnb]; rfl
  have hiff : oi a < oi b ↔ key a < key b := by
    rw [hka, hkb]
    by_cases h1 : a < H63 <;> by_cases h2 : b < H63
    · rw [oi_lt h1, oi_lt h2]; simp only [h1, h2, if_true]; omega
    · rw [oi_lt h1, oi_ge (by omega) hb]; simp only [h1, h2, if_true, if_false]; unfold H63 at *; omega
    · rw [oi_ge (by omega) ha, oi_lt h2]; simp only [h1, h2, if_true, if_false]; unfold H63 at *; omega
    · rw [oi_ge (by omega) ha, oi_ge (by omega) hb]; simp only [h1, h2, if_false]; unfold H63 at *; omega
  rcases Int.lt_trichotomy (oi a) (oi b) with h | h | h
  · rw [cmp_lt h]; have := hiff.1 h; simp [this]
  · rw [cmp_eq h]
    have : ¬ key a < key b := fun hk => by have := hiff.2 hk; omega
    simp [this]
  · rw [cmp_gt h]
    have : ¬ key a < key b := fun hk => by have := hiff.2 hk; omega
    simp [this]
theorem below_spec {w : World} {a : Nat} (ha : a = 0 ∨ a = H63) : Ret P 102 #[fl a] w fun v w' => v = .bool (decide (a = H63)) ∧ Fr [] w w' := by
  refine F102ok ?_
  unfold F102
  rcases ha with rfl | rfl
  · have h1 : (fd.order 0 0 == some .eq) = true := by decide
    have h2 : fd.div 4607182418800017408 0 = some INF := by decide +kernel
    have h3 : (fd.order INF 0 == some .lt) = false := by decide +kernel
    have h4 : ¬ (0 = H63) := by decide
    simp (maxDischargeDepth := 8) [↓sC, sB, sM, feq, h1, fdiv h2, flt, h3, h4]
  · have h1 : (fd.order H63 0 == some .eq) = true := by decide +kernel
    have h2 : fd.div 4607182418800017408 H63 = some (INF + H63) := by decide +kernel
    have h3 : (fd.order (INF + H63) 0 == some .lt) = true := by decide +kernel
    simp (maxDischargeDepth := 8) [↓sC, sB, sM, feq, h1, fdiv h2, flt, h3]
theorem key_nan {a : Nat} (h : isN a = true) : key a = NAN + H63 := by
  unfold key canon
  rw [h]
  rfl
theorem refLess_spec {w : World} {a b : Nat} (ha : a < 2 * H63) (hb : b < 2 * H63) : Ret P 89 #[fl a, fl b] w fun v w' => v = .bool (decide (key a < key b)) ∧ Fr [] w w' := by
  refine F89ok ?_
  unfold F89
  refine none_spec.call ?_
  rintro _ w1 ⟨rfl, hf1⟩
  cases hna : isN a with
  | true =>
    have hk : ¬ key a < key b := by
      rw [key_nan hna]
      cases hnb : isN b with
      | true => rw [key_nan hnb]; omega
      | false => have := key_num hb hnb; unfold INF NAN H63 at *; omega
    simp (maxDischargeDepth := 8) [↓sC, sB, sM, hk, hf1]
  | false =>
    simp (maxDischargeDepth := 8) [↓sC, sB, sM]
    refine none_spec.call ?_
    rintro _ w2 ⟨rfl, hf2⟩
    have hf12 := hf1.trans0 hf2
    cases hnb : isN b with
    | true =>
      have hk : key a < key b := by
        rw [key_nan hnb]
        have := key_num ha hna
        unfold INF NAN H63 at *
        omega
      simp (maxDischargeDepth := 8) [↓sC, sB, sM, hk, hf12]
    | false =>
      by_cases hza : a = 0 ∨ a = H63
      · have d1 := zero_order ha hna
        simp only [hza, decide_true] at d1
        by_cases hzb : b = 0 ∨ b = H63
        · have d2 := zero_order hb hnb
          simp only [hzb, decide_true] at d2
          simp (maxDischargeDepth := 8) [↓sC, sB, sM, feq, d1, d2]
          refine (below_spec hza).call ?_
          rintro _ w3 ⟨rfl, hf3⟩
          have k0 : key 0 = H63 := by decide
          have k1 : key H63 = H63 - 1 := by decide
          have e1 : ¬ (0 = H63) := by decide
          have e2 : H63 - 1 < H63 := by decide
          have e3 : ¬ (H63 < H63 - 1) := by decide
          rcases hza with rfl | rfl
          · rcases hzb with rfl | rfl <;> simp (maxDischargeDepth := 8) [↓sC, sB, sM, k0, k1, e1, e3, hf12.trans0 hf3]
          · simp (maxDischargeDepth := 8) [↓sC, sB, sM]
            refine (below_spec hzb).call ?_
            rintro _ w4 ⟨rfl, hf4⟩
            rcases hzb with rfl | rfl <;> simp (maxDischargeDepth := 8) [↓sC, sB, sM, k0, k1, e1, e2, (hf12.trans0 hf3).trans0 hf4]
        · have d2 := zero_order hb hnb
          simp only [hzb, decide_false] at d2
          have d3 := lt_order ha hb hna hnb (fun h => hzb h.2)
          simp (maxDischargeDepth := 8) [↓sC, sB, sM, feq, flt, d1, d2, d3, hf12]
      · have d1 := zero_order ha hna
        simp only [hza, decide_false] at d1
        have d3 := lt_order ha hb hna hnb (fun h => hza h.1)
        simp (maxDischargeDepth := 8) [↓sC, sB, sM, feq, flt, d1, d3, hf12]
theorem refSame_spec {w : World} {a b : Nat} (ha : a < 2 * H63) (hb : b < 2 * H63) : Ret P 66 #[fl a, fl b] w fun v w' => v = .bool (decide (key a = key b)) ∧ Fr [] w w' := by
  refine F66ok ?_
  unfold F66
  refine (refLess_spec ha hb).call ?_
  rintro _ w1 ⟨rfl, hf1⟩
  by_cases h : key a < key b
  · have h2 : ¬ key a = key b := by omega
    simp (maxDischargeDepth := 8) [↓sC, sB, sM, h, h2, hf1]
  · simp (maxDischargeDepth := 8) [↓sC, sB, sM, h]
    refine (refLess_spec hb ha).call ?_
    rintro _ w2 ⟨rfl, hf2⟩
    by_cases h3 : key b < key a
    · have h2 : ¬ key a = key b := by omega
      simp (maxDischargeDepth := 8) [↓sC, sB, sM, h2, h3, hf1.trans0 hf2]
    · have h2 : key a = key b := by omega
      simp (maxDischargeDepth := 8) [↓sC, sB, sM, h2, h3, hf1.trans0 hf2]
end Go.Proofs.YtieejbkbdfccdaaGreat

set_option linter.unusedVariables false
namespace Go.Proofs.YtieejbkbdfccdaaGreat
def digits (n : Nat) : List UInt8 := if h : n < 128 then [UInt8.ofNat n] else UInt8.ofNat (n % 128 + 128) :: digits (n / 128)
termination_by n
decreasing_by omega
theorem digits_lt {n : Nat} (h : n < 128) : digits n = [UInt8.ofNat n] := by rw [digits, dif_pos h]
theorem digits_ge {n : Nat} (h : ¬ n < 128) : digits n = UInt8.ofNat (n % 128 + 128) :: digits (n / 128) := by rw [digits, dif_neg h]
theorem digits_len : ∀ (k n : Nat), n < 128 ^ (k + 1) → (digits n).length ≤ k + 1 := by
  intro k
  induction k with
  | zero => intro n h; rw [digits_lt (by simpa using h)]; simp
  | succ k ih =>
    intro n h
    by_cases hn : n < 128
    · rw [digits_lt hn]; simp
    · rw [digits_ge hn]
      have := ih (n / 128) (by rw [Nat.div_lt_iff_lt_mul (by omega)]; exact h)
      simp; omega
theorem or128 (n : Nat) : (UInt8.ofNat n ||| 128) = UInt8.ofNat (n % 128 + 128) := by
  have h : ∀ m : Nat, m < 256 → m ||| 128 = m % 128 + 128 := by decide +kernel
  apply UInt8.toNat_inj.1
  rw [UInt8.toNat_or, UInt8.toNat_ofNat', UInt8.toNat_ofNat']
  have h1 := h (n % 256) (Nat.mod_lt _ (by omega))
  have h2 : n % 2 ^ 8 ||| (128 : UInt8).toNat = n % 256 ||| 128 := rfl
  rw [h2, h1]
  omega
def zig (n : Int) : Nat := if n < 0 then (-(n + 1)).toNat * 2 + 1 else n.toNat * 2
def zag (n : Nat) : Int := if n % 2 = 1 then -((n / 2 : Nat) : Int) - 1 else ((n / 2 : Nat) : Int)
theorem zag_zig (n : Int) : zag (zig n) = n := by
  unfold zag zig
  split <;> split <;> omega
/-- A place as eight bytes, the highest first. -/
def placeB (k : Nat) : List UInt8 := [UInt8.ofNat (k / 72057594037927936), UInt8.ofNat (k / 281474976710656), UInt8.ofNat (k / 1099511627776), UInt8.ofNat (k / 4294967296),
  UInt8.ofNat (k / 16777216), UInt8.ofNat (k / 65536), UInt8.ofNat (k / 256), UInt8.ofNat k]
structure PartP where
  kind : UInt8
  u : Nat
  i : Int
  f : Nat
  s : List UInt8
  b : Bool
structure PartR where
  kind : UInt8
  u : Nat
  i : Int
  k : Nat
  s : List UInt8
  b : Bool
  deriving DecidableEq
def encP (p : PartP) : List UInt8 :=
  if p.kind = 117 then digits p.u else if p.kind = 105 then digits (zig p.i) else if p.kind = 102 then placeB (key p.f)
  else if p.kind = 115 then digits p.s.length ++ p.s else if p.kind = 98 then [if p.b then 1 else 0] else []
def plain (p : PartP) : PartR :=
  { kind := p.kind, u := if p.kind = 117 then p.u else 0, i := if p.kind = 105 then p.i else 0, k := if p.kind = 102 then key p.f else 0,
    s := if p.kind = 115 then p.s else [], b := if p.kind = 98 then p.b else false }
def encAll (l : List PartP) : List UInt8 := (l.map encP).flatten
theorem encAll_nil : encAll [] = [] := rfl
theorem encAll_snoc (l : List PartP) (p : PartP) : encAll (l ++ [p]) = encAll l ++ encP p := by simp [encAll]
theorem encAll_cons (p : PartP) (l : List PartP) : encAll (p :: l) = encP p ++ encAll l := by simp [encAll]
/-! ### Reading: a value, how many bytes were read, the error's number -/
def numGo : Nat → Nat → List UInt8 → Nat × Nat × Nat
  | n, i, [] => (0, i, 2)
  | n, i, x :: r =>
    if i = 9 ∧ 1 < x.toNat then (0, 10, 1)
    else if x.toNat < 128 then (if x.toNat = 0 ∧ 0 < i then (0, i + 1, 4) else (n + x.toNat * 128 ^ i, i + 1, 0))
    else numGo (n + (x.toNat % 128) * 128 ^ i) (i + 1) r
def num (l : List UInt8) : Nat × Nat × Nat := numGo 0 0 l
def place (l : List UInt8) : Nat := l.foldl (fun k x => k * 256 + x.toNat) 0
end Go.Proofs.YtieejbkbdfccdaaGreat

set_option linter.unusedVariables false
set_option linter.unusedSimpArgs false
namespace Go.Proofs.YtieejbkbdfccdaaGreat
open Go
def partC (p : PartP) : List Value := [bv p.kind, u64 p.u, i64 p.i, fl p.f, strB p.s, .bool p.b]
def okP (p : PartP) : Prop := p.u < 2 * H63 ∧ (-9223372036854775808 ≤ p.i ∧ p.i < 9223372036854775808) ∧ p.f < 2 * H63
def IsParts (w : World) (v : Value) (L : List PartP) : Prop := RdV w v L.length (flat partC L) ∧ ∀ p ∈ L, okP p
theorem IsParts.fr0 {w w' : World} {v : Value} {L : List PartP} (h : IsParts w v L) (hf : Fr [] w w') : IsParts w' v L := ⟨h.1.fr0 hf, h.2⟩
theorem partC_len : ∀ (L : List PartP), ∀ p ∈ L, (partC p).length = 6 := fun _ _ _ => rfl
@[simp] theorem oc_strB (l : List UInt8) : (strB l).oneCell' = true := noRfl rfl
theorem partC_one {p : PartP} : ∀ v ∈ partC p, v.oneCell' = true := by
  intro v hv
  simp only [partC, List.mem_cons, List.not_mem_nil, or_false] at hv
  rcases hv with rfl | rfl | rfl | rfl | rfl | rfl <;> rfl
theorem partC_oneT (p : PartP) : (∀ v, v ∈ partC p → v.oneCell' = true) = True := by simpa using fun v hv => partC_one v hv
theorem kk (x : UInt8) (n : Nat) (h : n < 256) : (x.toNat = n) = (x = UInt8.ofNat n) := by
  apply propext
  constructor
  · intro e; apply UInt8.toNat_inj.1; rw [e, UInt8.toNat_ofNat']; omega
  · rintro rfl; rw [UInt8.toNat_ofNat']; omega
theorem kk117 (x : UInt8) : (x.toNat = 117) = (x = 117) := kk x 117 (by omega)
theorem kk105 (x : UInt8) : (x.toNat = 105) = (x = 105) := kk x 105 (by omega)
theorem kk102 (x : UInt8) : (x.toNat = 102) = (x = 102) := kk x 102 (by omega)
theorem kk115 (x : UInt8) : (x.toNat = 115) = (x = 115) := kk x 115 (by omega)
theorem kk98 (x : UInt8) : (x.toNat = 98) = (x = 98) := kk x 98 (by omega)
theorem ki117 (x : UInt8) : ((x.toNat : Int) = 117) = (x = 117) := by rw [← kk117]; exact propext ⟨fun h => by omega, fun h => by omega⟩
theorem ki105 (x : UInt8) : ((x.toNat : Int) = 105) = (x = 105) := by rw [← kk105]; exact propext ⟨fun h => by omega, fun h => by omega⟩
theorem ki102 (x : UInt8) : ((x.toNat : Int) = 102) = (x = 102) := by rw [← kk102]; exact propext ⟨fun h => by omega, fun h => by omega⟩
theorem ki115 (x : UInt8) : ((x.toNat : Int) = 115) = (x = 115) := by rw [← kk115]; exact propext ⟨fun h => by omega, fun h => by omega⟩
theorem ki98 (x : UInt8) : ((x.toNat : Int) = 98) = (x = 98) := by rw [← kk98]; exact propext ⟨fun h => by omega, fun h => by omega⟩
theorem own_base {w : World} {base base' e size : Nat} {v : Value} {n : Nat} {xs : List Value} (h : w.ownsRow base e size v n xs) (hb : base' ≤ base) : w.ownsRow base' e size v n xs := by
  refine ⟨h.1, ?_⟩
  rcases h.2 with h2 | ⟨g, cap, cur, h1, h2, h3⟩
  · exact .inl h2
  · exact .inr ⟨g, cap, cur, h1, Nat.le_trans hb h2, h3⟩
end Go.Proofs.YtieejbkbdfccdaaGreat

set_option linter.unusedVariables false
set_option linter.unusedSimpArgs false
namespace Go.Proofs.YtieejbkbdfccdaaGreat
open Go
/-- At block 'b' lies a Writer that holds the bytes 'B'. -/
def IsW (w : World) (b : Nat) (B : List UInt8) (F : List Nat) : Prop :=
  ∃ v, mm w b = [v] ∧ fz w b = false ∧ w.ownsRow 0 5 1 v B.length (bs B) ∧ (∀ k, v.ownBlock = some k → k ≠ b ∧ k ∈ F) ∧ b ∈ F ∧ ∀ k ∈ F, k < sz w
theorem IsW.fr {w w' : World} {b : Nat} {B : List UInt8} {F S : List Nat} (h : IsW w b B F) (hf : Fr S w w') (hS : ∀ k ∈ F, k ∉ S) : IsW w' b B F := by
  obtain ⟨v, h1, h2, h3, h4, h5, h6⟩ := h
  exact ⟨v, by rw [hf.mm (h6 b h5) (hS b h5), h1], by rw [hf.fz (h6 b h5) (hS b h5), h2], own_fr h3 hf (fun k hk => hS k (h4 k hk).2), h4, h5, fun k hk => hf.lt (h6 k hk)⟩
theorem IsW.fr0 {w w' : World} {b : Nat} {B : List UInt8} {F : List Nat} (h : IsW w b B F) (hf : Fr [] w w') : IsW w' b B F := h.fr hf (by simp)
/-- What is appended to a Writer's bytes. -/
theorem IsW.done {w w0 w1 : World} {b : Nat} {B l : List UInt8} {F : List Nat} {v v' : Value} (h2 : fz w b = false) (h4 : ∀ k, v.ownBlock = some k → k ≠ b ∧ k ∈ F) (h5 : b ∈ F) (h6 : ∀ k ∈ F, k < sz w)
    (hm : mm w b = [v]) (hf0 : Fr [] w w0) (hown : w1.ownsRow 0 5 1 v' (B.length + l.length) (bs B ++ bs l)) (hg : w0.grownBy w1 v.ownBlock) (hv : v'.ownBlock = v.ownBlock ∨ v'.ownBlock = some (sz w0)) :
    mm w1 b = [v] ∧ fz w1 b = false ∧ v'.oneCell' = true ∧ ∃ F', IsW (wr w1 b [v']) b (B ++ l) F' ∧ Fr F w (wr w1 b [v']) ∧ ∀ k ∈ F', k ∈ F ∨ sz w ≤ k := by
  have hb := h6 b h5
  have hf1 := Fr.of_grown hg
  have hnb : b ∉ v.ownBlock.toList := fun hk => (h4 b (by simpa using hk)).1 rfl
  have hb0 := hf0.lt hb
  have hfF : Fr F w w1 := (hf0.mono (T := F) (by simp)).trans hf1 (fun k hk => .inl (h4 k (by simpa using hk)).2)
  refine ⟨by rw [hf1.mm hb0 hnb, hf0.mm hb (by simp), hm], by rw [hf1.fz hb0 hnb, hf0.fz hb (by simp), h2], ?_, ?_⟩
  · obtain ⟨a, c, rfl⟩ := own_val hown; rfl
  · have hbw : ∀ k, v'.ownBlock = some k → k ≠ b := fun k hk => by
      rcases hv with hv | hv
      · exact (h4 k (by rw [← hv]; exact hk)).1
      · have : k = sz w0 := by rw [hv] at hk; simpa using hk.symm
        omega
    refine ⟨v'.ownBlock.toList ++ F, ⟨v', ?_, ?_, ?_, ?_, by simp [h5], ?_⟩, hfF.wr (.inl h5) _, ?_⟩
    · exact mm_wr_same (by rw [hf1.fz hb0 hnb, hf0.fz hb (by simp), h2]) _
    · rw [fz_wr, hf1.fz hb0 hnb, hf0.fz hb (by simp), h2]
    · rw [bs_append, List.length_append]
      exact own_fr hown ((Fr.refl [b] w1).wr (.inl (by simp)) _) (fun k hk => by simpa using hbw k hk)
    · intro k hk; exact ⟨hbw k hk, by simp [hk]⟩
    · intro k hk
      rw [sz_wr]
      rcases List.mem_append.1 hk with hk | hk
      · exact (hown.lt k (by simpa using hk)).2
      · exact hf1.lt (hf0.lt (h6 k hk))
    · intro k hk
      rcases List.mem_append.1 hk with hk | hk
      · have hk' : v'.ownBlock = some k := by simpa using hk
        rcases hv with hv | hv
        · exact .inl (h4 k (by rw [← hv]; exact hk')).2
        · have : k = sz w0 := by rw [hv] at hk'; simpa using hk'.symm
          exact .inr (by have := hf0.size; omega)
      · exact .inl hk
theorem app_bytes {w w0 : World} {b : Nat} {B l : List UInt8} {F : List Nat} {x : Value} (h : IsW w b B F) (hf0 : Fr [] w w0) (hr : RdV w0 x l.length (bs l)) (hl : B.length + l.length ≤ 1000000000) :
    ∃ v v' w1, mm w b = [v] ∧ pBuiltin P .append #[72, 72] 72 [v, x] w0 = some (v', w1) ∧ mm w1 b = [v] ∧ fz w1 b = false ∧ v'.oneCell' = true ∧
      ∃ F', IsW (wr w1 b [v']) b (B ++ l) F' ∧ Fr F w (wr w1 b [v']) ∧ ∀ k ∈ F', k ∈ F ∨ sz w ≤ k := by
  obtain ⟨v, h1, h2, h3, h4, h5, h6⟩ := h
  obtain ⟨v', w1, hrun, hown, hg, hv⟩ := append_own2 (P := P) (t := 72) (ty := 72) 0 sliceE72 hasZero5 cellsOf5 (by rw [zeroL5]; rfl) (by omega) (own_fr h3 hf0 (by simp)) (Nat.zero_le _) hr (by simp) bs_one
    (by unfold maxLen; omega) (by rw [bytesOf5]; omega)
  exact ⟨v, v', w1, h1, hrun, IsW.done h2 h4 h5 h6 h1 hf0 hown hg hv⟩
theorem app_str {w w0 : World} {b : Nat} {B l : List UInt8} {F : List Nat} (h : IsW w b B F) (hf0 : Fr [] w w0) (hl : B.length + l.length ≤ 1000000000) :
    ∃ v v' w1, mm w b = [v] ∧ pBuiltin P .append #[72, 9] 72 [v, strB l] w0 = some (v', w1) ∧ mm w1 b = [v] ∧ fz w1 b = false ∧ v'.oneCell' = true ∧
      ∃ F', IsW (wr w1 b [v']) b (B ++ l) F' ∧ Fr F w (wr w1 b [v']) ∧ ∀ k ∈ F', k ∈ F ∨ sz w ≤ k := by
  obtain ⟨v, h1, h2, h3, h4, h5, h6⟩ := h
  obtain ⟨v', w1, hrun, hown, hg, hv⟩ := append_str (P := P) (t := 72) (u := 9) (ty := 72) 0 sliceE72 und9 hasZero5 cellsOf5 (by rw [zeroL5]; rfl) (own_fr h3 hf0 (by simp)) (Nat.zero_le _) (l := l)
    (by unfold maxLen; omega) (by rw [bytesOf5]; omega)
  exact ⟨v, v', w1, h1, hrun, IsW.done h2 h4 h5 h6 h1 hf0 hown hg hv⟩
/-- What a call leaves: the Writer holds more bytes. -/
structure More (w : World) (b : Nat) (B : List UInt8) (F : List Nat) (w' : World) (F' : List Nat) : Prop where
  is : IsW w' b B F'
  fr : Fr F w w'
  new : ∀ k ∈ F', k ∈ F ∨ sz w ≤ k
theorem More.trans {w w1 w2 : World} {b : Nat} {B C : List UInt8} {F F1 F2 : List Nat} (h : More w b B F w1 F1) (h' : More w1 b C F1 w2 F2) : More w b C F w2 F2 :=
  ⟨h'.is, h.fr.trans h'.fr h.new, fun k hk => (h'.new k hk).elim (h.new k) fun h2 => .inr (Nat.le_trans h.fr.size h2)⟩
theorem More.refl {w : World} {b : Nat} {B : List UInt8} {F : List Nat} (h : IsW w b B F) : More w b B F w F := ⟨h, Fr.refl _ _, fun k hk => .inl hk⟩
theorem More.calm {w w1 w2 : World} {b : Nat} {B : List UInt8} {F F1 : List Nat} (h : More w b B F w1 F1) (hf : Fr [] w1 w2) : More w b B F w2 F1 := ⟨h.is.fr0 hf, h.fr.trans0 hf, h.new⟩
def UI (w : World) (b : Nat) (B : List UInt8) (F : List Nat) (n : Nat) (m : Nat) (e : Env) (w' : World) : Prop :=
  ∃ (C : List UInt8) (F' : List Nat), B ++ digits n = C ++ digits m ∧ m ≤ n ∧ More w b C F w' F' ∧ e 0 = pt b 0 ∧ e 1 = u64 m
theorem wU_spec {w : World} {b : Nat} {B : List UInt8} {F : List Nat} {n : Nat} (h : IsW w b B F) (hn : n < 2 * H63) (hl : B.length + (digits n).length ≤ 1000000000) :
    Ret P 57 #[pt b 0, u64 n] w fun v w' => v = .tuple #[] ∧ ∃ F', More w b (B ++ digits n) F w' F' := by
  refine F57ok ?_
  unfold F57
  refine loopE_of (UI w b B F n) n ⟨B, F, rfl, Nat.le_refl _, More.refl h, rfl, rfl⟩ ?_
  rintro j e w1 ⟨C, F1, hC, hj, hm, e0, e1⟩
  unfold F57B0
  obtain ⟨v0, q1, q2, _⟩ := hm.is
  obtain ⟨x, hx⟩ : ∃ x, x = UInt8.ofNat j := ⟨_, rfl⟩
  have hw8 : IntKind.u8.wrap (j : Int) = (x.toNat : Int) := by rw [hx]; exact wrap8_mod j
  by_cases hjl : j < 128
  · have hjl' : ¬ (128 : Int) ≤ j := by omega
    rw [digits_lt hjl, ← hx] at hC
    have hlen : C.length + [x].length ≤ 1000000000 := by
      have := congrArg List.length hC
      simp only [List.length_append] at this
      omega
    have hf0 : Fr [] w1 (nw w1 [bv x] 5) := (Fr.refl [] w1).nw _ _
    obtain ⟨v, v', w2, p1, p2, p3, p4, p5, F', p6⟩ := app_bytes hm.is hf0 (l := [x]) (rd_new w1 [bv x] 5 (n := 1) (by unfold maxLen; omega)) hlen
    try simp (maxDischargeDepth := 8) [↓sC, sB, sM, e0, e1, hjl', hjl, hw8, p1, p2, p3, p4, p5]
    rw [hC]
    exact ⟨F', hm.trans ⟨p6.1, p6.2.1, p6.2.2⟩⟩
  · have hjl' : (128 : Int) ≤ j := by omega
    obtain ⟨y, hy⟩ : ∃ y, y = x ||| 128 := ⟨_, rfl⟩
    have hor : ∀ w, pBin P .or 5 true (bv x) (Value.int .u8 128) w = some (bv y, w) := fun w => by rw [hy]; exact pOr8 (x := x) (y := 128)
    have hsh : ∀ w, pBin P .shr 127 true (u64 j) (Value.int .u64 7) w = some (u64 (j / 128), w) := fun w => by
      have := pShrU (P := P) (t := 127) (w := w) (lit := true) (a := j) (k := .u64) (y := 7) (by omega) (by omega)
      simpa using this
    rw [digits_ge hjl, ← or128, ← hx, ← hy] at hC
    have hC2 : B ++ digits n = (C ++ [y]) ++ digits (j / 128) := by rw [hC]; simp
    have hlen : C.length + [y].length ≤ 1000000000 := by
      have := congrArg List.length hC2
      simp only [List.length_append] at this ⊢
      omega
    have hf0 : Fr [] w1 (nw w1 [bv y] 5) := (Fr.refl [] w1).nw _ _
    obtain ⟨v, v', w2, p1, p2, p3, p4, p5, F', p6⟩ := app_bytes hm.is hf0 (l := [y]) (rd_new w1 [bv y] 5 (n := 1) (by unfold maxLen; omega)) hlen
    try simp (maxDischargeDepth := 8) [↓sC, sB, sM, e0, e1, hjl', hjl, hw8, hor, hsh, p1, p2, p3, p4, p5]
    refine ⟨j / 128, by omega, C ++ [y], F', hC2, by omega, hm.trans ⟨p6.1, p6.2.1, p6.2.2⟩, by simp [put_get, e0], by simp [put_get]⟩
theorem shl1 (n : Int) (h0 : -9223372036854775808 ≤ n) (h1 : n < 9223372036854775808) :
    ((BitVec.ofInt 64 (IntKind.u64.wrap (IntKind.u64.wrap n * 2))) ^^^ (BitVec.ofInt 64 (IntKind.u64.wrap (if n < 0 then -1 else 0)))).toNat = zig n := by
  by_cases hn : n < 0
  · have hz : zig n = (-(n + 1)).toNat * 2 + 1 := by unfold zig; rw [if_pos hn]
    rw [if_pos hn, hz]
    have e1 : BitVec.ofInt 64 (IntKind.u64.wrap (-1)) = BitVec.allOnes 64 := by decide
    have e2 : IntKind.u64.wrap (IntKind.u64.wrap n * 2) = ((n * 2) % 18446744073709551616) := by
      unfold IntKind.wrap
      simp only [IntKind.bits, IntKind.signed, Bool.false_and, Bool.false_eq_true, if_false]
      omega
    rw [e1, e2, BitVec.xor_comm, BitVec.allOnes_xor, BitVec.toNat_not, BitVec.toNat_ofInt]
    omega
  · have hz : zig n = n.toNat * 2 := by unfold zig; rw [if_neg hn]
    rw [if_neg hn, hz]
    have e1 : BitVec.ofInt 64 (IntKind.u64.wrap 0) = 0 := by decide
    have e2 : IntKind.u64.wrap (IntKind.u64.wrap n * 2) = n * 2 := by
      unfold IntKind.wrap
      simp only [IntKind.bits, IntKind.signed, Bool.false_and, Bool.false_eq_true, if_false]
      omega
    have e3 : ∀ x : BitVec 64, x ^^^ 0 = x := fun x => by simp
    rw [e1, e2, e3, BitVec.toNat_ofInt]
    omega
theorem zig_lt {n : Int} (h0 : -9223372036854775808 ≤ n) (h1 : n < 9223372036854775808) : zig n < 2 * H63 := by
  unfold zig H63; split <;> omega
theorem wI_spec {w : World} {b : Nat} {B : List UInt8} {F : List Nat} {n : Int} (h : IsW w b B F) (h0 : -9223372036854775808 ≤ n) (h1 : n < 9223372036854775808) (hl : B.length + (digits (zig n)).length ≤ 1000000000) :
    Ret P 78 #[pt b 0, i64 n] w fun v w' => v = .tuple #[] ∧ ∃ F', More w b (B ++ digits (zig n)) F w' F' := by
  refine F78ok ?_
  unfold F78
  have hs1 : ∀ w, pBin P .shl 127 true (Value.int .u64 (IntKind.u64.wrap n)) (Value.int .u64 1) w = some (.int .u64 (IntKind.u64.wrap (IntKind.u64.wrap n * 2)), w) := fun w => by
    have := pBin_shl (P := P) (t := 127) (w := w) (lit := true) (k := .u64) (x := IntKind.u64.wrap n) (k' := .u64) (y := 1) (by omega)
    have e : min (1 : Int).toNat IntKind.u64.bits = 1 := by decide
    rw [e] at this
    simpa using this
  have hs2 : ∀ w, pBin P .shr 2 true (i64 n) (Value.int .u64 63) w = some (i64 (if n < 0 then -1 else 0), w) := fun w => by
    have := pBin_shr (P := P) (t := 2) (w := w) (lit := true) (k := .i64) (x := n) (k' := .u64) (y := 63) (by omega)
    rw [this]
    congr 3
    have e : min (63 : Int).toNat IntKind.i64.bits = 63 := by decide
    rw [e, Int.fdiv_eq_ediv_of_nonneg _ (by decide)]
    split <;> omega
  have hx : ∀ w, pBin P .xor 127 false (Value.int .u64 (IntKind.u64.wrap (IntKind.u64.wrap n * 2))) (Value.int .u64 (IntKind.u64.wrap (if n < 0 then -1 else 0))) w = some (u64 (zig n), w) := fun w => by
    refine pBin_bits ?_ (.inr (.inr (.inl rfl)))
    rw [bits_xor, shl1 n h0 h1, wrapu (zig_lt h0 h1)]
    rfl
  try simp (maxDischargeDepth := 8) [↓sC, sB, sM, hs1, hs2, hx]
  refine (wU_spec h (zig_lt h0 h1) hl).call ?_
  rintro _ w1 ⟨rfl, hw⟩
  try simp (maxDischargeDepth := 8) [↓sC, sB, sM]
  exact hw
def FI (w : World) (b : Nat) (B : List UInt8) (F : List Nat) (k : Nat) (m : Nat) (e : Env) (w' : World) : Prop :=
  ∃ (F' : List Nat) (s : Int), m ≤ 8 ∧ s = 8 * (m : Int) - 8 ∧ More w b (B ++ (placeB k).take (8 - m)) F w' F' ∧ e 0 = pt b 0 ∧ e 4 = u64 k ∧ e 5 = i64 s
theorem placeB_take {k m : Nat} (h : m < 8) : (placeB k).take (8 - m) = (placeB k).take (8 - (m + 1)) ++ [UInt8.ofNat (k / 2 ^ (8 * m))] := by
  have : m = 0 ∨ m = 1 ∨ m = 2 ∨ m = 3 ∨ m = 4 ∨ m = 5 ∨ m = 6 ∨ m = 7 := by omega
  rcases this with rfl | rfl | rfl | rfl | rfl | rfl | rfl | rfl <;> simp [placeB]
theorem wF_spec {w : World} {b : Nat} {B : List UInt8} {F : List Nat} {a : Nat} (h : IsW w b B F) (ha : a < 2 * H63) (hl : B.length + 8 ≤ 1000000000) :
    Ret P 79 #[pt b 0, fl a] w fun v w' => v = .tuple #[] ∧ ∃ F', More w b (B ++ placeB (key a)) F w' F' := by
  refine F79ok ?_
  unfold F79
  refine (key_spec ha).call ?_
  rintro _ w1 ⟨rfl, hf1⟩
  have hk := key_lt ha
  generalize key a = k at *
  try simp (maxDischargeDepth := 8) [↓sC, sB, sM]
  refine loopE_of (FI w b B F k) 8 ⟨F, 56, by omega, by omega, by simpa using (More.refl h).calm hf1, by simp [put_get, argE_get], by simp [put_get], by simp [put_get]⟩ ?_
  rintro m e w2 ⟨F2, s, hm8, hs, hm, e0, e4, e5⟩
  unfold F79B0
  cases m with
  | zero =>
    have hge : ¬ (0 : Int) ≤ s := by omega
    try simp (maxDischargeDepth := 8) [↓sC, sB, sM, e5, hge]
    exact ⟨F2, hm⟩
  | succ m =>
    have hge : (0 : Int) ≤ s := by omega
    obtain ⟨x, hx⟩ : ∃ x, x = UInt8.ofNat (k / 2 ^ (8 * m)) := ⟨_, rfl⟩
    obtain ⟨q, hq⟩ : ∃ q, q = k / 2 ^ (8 * m) := ⟨_, rfl⟩
    rw [← hq] at hx
    have hw8 : IntKind.u8.wrap (q : Int) = (x.toNat : Int) := by rw [hx]; exact wrap8_mod _
    have hsh : ∀ w, pBin P .shr 127 false (u64 k) (i64 s) w = some (u64 q, w) := fun w => by
      have := pShrU (P := P) (t := 127) (w := w) (lit := false) (a := k) (k := .i64) (y := s) (by omega) (by omega)
      rw [this]
      have e : s.toNat = 8 * m := by omega
      rw [e, hq]
    have hwr : IntKind.i64.wrap (s - 8) = s - 8 := wrap64 (by omega) (by omega)
    have hlen : (B ++ (placeB k).take (8 - (m + 1))).length + [x].length ≤ 1000000000 := by simp [placeB]; omega
    obtain ⟨v0, q1, q2, q3, q4, q5, q6⟩ := id hm.is
    have hb2 := q6 b q5
    have hnb : ¬ b = sz w2 := by omega
    have hf0 : Fr [] w2 (nw (drew w2) [bv x] 5) := (Fr.refl [] w2).drew.nw _ _
    have hrd : RdV (nw (drew w2) [bv x] 5) (sl (sz w2) 0 1 1) 1 [bv x] := rd_new (drew w2) [bv x] 5 (n := 1) (by unfold maxLen; omega)
    obtain ⟨v, v', w3, p1, p2, p3, p4, p5, F', p6⟩ := app_bytes hm.is hf0 (l := [x]) hrd hlen
    try simp (maxDischargeDepth := 8) [↓sC, sB, sM, e0, e4, e5, hge, hsh, hw8, hwr, hnb, p1, p2, p3, p4, p5]
    refine ⟨m, by omega, F', s - 8, by omega, by omega, ?_, by simp [put_get, e0], by simp [put_get, e4], by simp [put_get]⟩
    rw [placeB_take (by omega), ← hq, ← hx, ← List.append_assoc]
    exact hm.trans ⟨p6.1, p6.2.1, p6.2.2⟩
theorem wS_spec {w : World} {b : Nat} {B l : List UInt8} {F : List Nat} (h : IsW w b B F) (hl : B.length + ((digits l.length).length + l.length) ≤ 1000000000) :
    Ret P 48 #[pt b 0, strB l] w fun v w' => v = .tuple #[] ∧ ∃ F', More w b (B ++ (digits l.length ++ l)) F w' F' := by
  refine F48ok ?_
  unfold F48
  have hlen : ∀ w, pBuiltin P .len #[9] 3 [strB l] w = some (i64 l.length, w) := fun w => len_strB und9
  have hwr : IntKind.u64.wrap (l.length : Int) = (l.length : Int) := wrapu (by unfold H63; omega)
  try simp (maxDischargeDepth := 8) [↓sC, sB, sM, hlen, hwr]
  refine (wU_spec h (n := l.length) (by unfold H63; omega) (by omega)).call ?_
  rintro _ w1 ⟨rfl, F1, hm⟩
  obtain ⟨v, v', w3, p1, p2, p3, p4, p5, F', p6⟩ := app_str hm.is (Fr.refl [] w1) (l := l) (by rw [List.length_append]; omega)
  try simp (maxDischargeDepth := 8) [↓sC, sB, sM, p1, p2, p3, p4, p5]
  refine ⟨F', ?_⟩
  rw [← List.append_assoc]
  exact hm.trans ⟨p6.1, p6.2.1, p6.2.2⟩
/-- Bytes hands out a copy. -/
theorem wBytes_spec {w : World} {b : Nat} {B : List UInt8} {F : List Nat} (h : IsW w b B F) (hl : B.length ≤ 1000000000) :
    Ret P 50 #[pt b 0] w fun v w' => w'.ownsRow (sz w) 5 1 v B.length (bs B) ∧ Fr [] w w' := by
  refine F50ok ?_
  unfold F50
  obtain ⟨v0, q1, q2, q3, q4, q5, q6⟩ := id h
  have hrd : RdV w v0 B.length (bs B) := own_rd q3
  obtain ⟨v', w1, hrun, hown, hg, _⟩ := append_own (P := P) (t := 72) (ty := 72) (sz w) sliceE72 hasZero5 cellsOf5 (by rw [zeroL5]; rfl) (by omega) (World.ownsRow_nil w (sz w) 5 1) (Nat.le_refl _) hrd (by simp) bs_one
    (by unfold maxLen; omega) (by rw [bytesOf5]; omega)
  have hf : Fr [] w w1 := by simpa [Value.ownBlock] using Fr.of_grown hg
  simp only [Nat.zero_add, List.nil_append] at hown
  try simp (maxDischargeDepth := 8) [↓sC, sB, sM, q1, hrun]
  exact ⟨hown, hf⟩
end Go.Proofs.YtieejbkbdfccdaaGreat
