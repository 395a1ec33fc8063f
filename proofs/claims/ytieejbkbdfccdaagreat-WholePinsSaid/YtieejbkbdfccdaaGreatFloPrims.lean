/- Floating numbers and their bits: the small operations. -/
import Derived.Test.YtieejbkbdfccdaaGreatPrims2
import Derived.Test.YtieejbkbdfccdaaGreatBase
import Derived.Test.YtieejbkbdfccdaaGreatFloBits
import Derived.Laws.Externs
set_option linter.unusedVariables false
set_option linter.unusedSimpArgs false
namespace Go.Proofs.YtieejbkbdfccdaaGreat
open Go
abbrev fl (a : Nat) : Value := .float .f64 a
abbrev u64 (a : Nat) : Value := .int .u64 (a : Int)
section
variable {P : Program} {t : TypeId} {w : World} {lit : Bool} {a b : Nat}
theorem pBin_float {op : BinOp} {v : Value} {w' : World} (h : (binOp op t (fl a) (fl b)).run P w = .ok v w') :
    pBin P op t lit (fl a) (fl b) w = some (v, w') := by
  simp only [pBin, runV, eqGuard_at_float, Sem.run_bind, Sem.run_pure, Result.andThen_ok, h]
theorem feq : pBin P .eql t lit (fl a) (fl b) w = some (.bool (fd.order a b == some .eq), w) := pBin_float (by simp [binOp, Op.floatCmp, FloatKind.format, fd])
theorem fne : pBin P .neq t lit (fl a) (fl b) w = some (.bool (fd.order a b != some .eq), w) := pBin_float (by simp [binOp, Op.floatCmp, FloatKind.format, fd])
theorem flt : pBin P .lss t lit (fl a) (fl b) w = some (.bool (fd.order a b == some .lt), w) := pBin_float (by simp [binOp, Op.floatCmp, FloatKind.format, fd])
/-- What an operation's result is in its one form. -/
def one (r : Option Nat) : Nat := match r with | some r => canon r | none => NAN
theorem fdiv {r : Nat} (h : fd.div a b = some r) : pBin P .quo t lit (fl a) (fl b) w = some (fl r, w) := by
  have h' : Ieee.double.div a b = some r := h
  exact pBin_float (by simp [binOp, Op.floatArith, FloatKind.format, h'])
/-! ### Bits -/
theorem wrapu {n : Nat} (h : n < 2 * H63) : IntKind.u64.wrap (n : Int) = n := by
  unfold IntKind.wrap
  simp only [IntKind.bits, IntKind.signed, Bool.false_and, Bool.false_eq_true, if_false]
  unfold H63 at h
  omega
theorem bv_nat (n : Nat) : BitVec.ofInt 64 (n : Int) = BitVec.ofNat 64 n := by
  apply BitVec.eq_of_toNat_eq
  simp
theorem nat_and_sign (a : Nat) (h : a < 2 * H63) : a &&& H63 = if a < H63 then 0 else H63 := by
  have h63 : H63 = 2 ^ 63 := by decide
  have ht : ∀ i, ¬ 63 = i → (2 ^ 63).testBit i = false := fun i hi => by rw [Nat.testBit_two_pow]; simp [hi]
  rw [h63]
  by_cases ha : a < 2 ^ 63
  · rw [if_pos ha]
    apply Nat.eq_of_testBit_eq
    intro i
    by_cases hi : 63 = i
    · subst hi; simp [Nat.testBit_and, Nat.testBit_lt_two_pow ha]
    · rw [Nat.testBit_and, ht i hi, Nat.zero_testBit, Bool.and_false]
  · rw [if_neg ha]
    have hb : a.testBit 63 = true := by
      rw [Nat.testBit_eq_decide_div_mod_eq]
      rw [h63] at h
      have : a / 2 ^ 63 = 1 := by omega
      simp [this]
    apply Nat.eq_of_testBit_eq
    intro i
    by_cases hi : 63 = i
    · subst hi; simp [Nat.testBit_and, hb]
    · rw [Nat.testBit_and, ht i hi, Bool.and_false]
theorem nat_or_sign (a : Nat) (h : a < H63) : a ||| H63 = a + H63 := by
  have h63 : H63 = 2 ^ 63 := by decide
  rw [h63] at h ⊢
  have := Nat.two_pow_add_eq_or_of_lt (i := 63) h 1
  rw [Nat.mul_one] at this
  rw [Nat.or_comm, ← this, Nat.add_comm]
theorem bits_and (x y : Int) : (Op.intBits .and .u64 x y : Sem Value) = pure (.int .u64 (IntKind.u64.wrap (((BitVec.ofInt 64 x &&& BitVec.ofInt 64 y).toNat : Nat) : Int))) := rfl
theorem bits_or (x y : Int) : (Op.intBits .or .u64 x y : Sem Value) = pure (.int .u64 (IntKind.u64.wrap (((BitVec.ofInt 64 x ||| BitVec.ofInt 64 y).toNat : Nat) : Int))) := rfl
theorem bits_xor (x y : Int) : (Op.intBits .xor .u64 x y : Sem Value) = pure (.int .u64 (IntKind.u64.wrap (((BitVec.ofInt 64 x ^^^ BitVec.ofInt 64 y).toNat : Nat) : Int))) := rfl
theorem bits_andNot (x y : Int) : (Op.intBits .andNot .u64 x y : Sem Value) = pure (.int .u64 (IntKind.u64.wrap (((BitVec.ofInt 64 x &&& ~~~BitVec.ofInt 64 y).toNat : Nat) : Int))) := rfl
theorem e63 : (9223372036854775808 : Int) = ((H63 : Nat) : Int) := by decide
theorem pAnd (h : a < 2 * H63) : pBin P .and t lit (u64 a) (.int .u64 9223372036854775808) w = some (u64 (if a < H63 then 0 else H63), w) := by
  refine pBin_bits (x := (a : Int)) ?_ (.inl rfl)
  have h1 : a % 2 ^ 64 = a := Nat.mod_eq_of_lt (by unfold H63 at h; omega)
  have h2 : H63 % 2 ^ 64 = H63 := by decide
  have h3 : (if a < H63 then 0 else H63) < 2 * H63 := by split <;> decide
  rw [bits_and, e63, bv_nat, bv_nat, BitVec.toNat_and, BitVec.toNat_ofNat, BitVec.toNat_ofNat, h1, h2, nat_and_sign a h, wrapu h3]
  rfl
theorem pOr (h : a < H63) : pBin P .or t lit (u64 a) (.int .u64 9223372036854775808) w = some (u64 (a + H63), w) := by
  refine pBin_bits (x := (a : Int)) ?_ (.inr (.inl rfl))
  have h1 : a % 2 ^ 64 = a := Nat.mod_eq_of_lt (by unfold H63 at h; omega)
  have h2 : H63 % 2 ^ 64 = H63 := by decide
  rw [bits_or, e63, bv_nat, bv_nat, BitVec.toNat_or, BitVec.toNat_ofNat, BitVec.toNat_ofNat, h1, h2, nat_or_sign a h, wrapu (by omega)]
  rfl
theorem pXor (h : a < 2 * H63) : pUn P .xor (u64 a) w = some (u64 (18446744073709551615 - a), w) := by
  have h1 : a % 2 ^ 64 = a := Nat.mod_eq_of_lt (by unfold H63 at h; omega)
  have hu : (Op.unary .xor (u64 a) : Sem Value) = Op.intBits .xor .u64 IntKind.u64.max a := rfl
  have e : BitVec.ofInt 64 IntKind.u64.max = BitVec.allOnes 64 := by decide
  have e2 : (2 ^ 64 - 1 - a : Nat) = 18446744073709551615 - a := by omega
  unfold pUn runV
  rw [hu, bits_xor, e, bv_nat, BitVec.allOnes_xor, BitVec.toNat_not, BitVec.toNat_ofNat, h1, e2, wrapu (by unfold H63; omega)]
  rfl
theorem pAndNot (h : a < 2 * H63) : pBin P .andNot t lit (u64 a) (.int .u64 9223372036854775808) w = some (u64 (a % H63), w) := by
  refine pBin_bits (x := (a : Int)) ?_ (.inr (.inr (.inr rfl)))
  have h1 : a % 2 ^ 64 = a := Nat.mod_eq_of_lt (by unfold H63 at h; omega)
  have h2 : 2 ^ 64 - 1 - H63 % 2 ^ 64 = 2 ^ 63 - 1 := by decide
  have h3 : a % 2 ^ 63 = a % H63 := rfl
  rw [bits_andNot, e63, bv_nat, bv_nat, BitVec.toNat_and, BitVec.toNat_not, BitVec.toNat_ofNat, BitVec.toNat_ofNat, h1, h2, Nat.and_two_pow_sub_one_eq_mod, h3,
    wrapu (by have := Nat.mod_lt a (show 0 < H63 by decide); omega)]
  rfl
end
end Go.Proofs.YtieejbkbdfccdaaGreat
