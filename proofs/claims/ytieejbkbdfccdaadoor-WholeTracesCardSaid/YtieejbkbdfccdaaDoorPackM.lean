/- Numbers, texts and so on as bytes, and read of bytes: plain definitions. -/
import Derived.Test.YtieejbkbdfccdaaDoorFloBits
set_option linter.unusedVariables false
namespace Go.Proofs.YtieejbkbdfccdaaDoor

def digits (n : Nat) : List UInt8 := if h : n < 128 then [UInt8.ofNat n] else UInt8.ofNat (n % 128 + 128) :: digits (n / 128)
termination_by n
decreasing_by omega
theorem digits_lt {n : Nat} (h : n < 128) : digits n = [UInt8.ofNat n] := by rw [digits, dif_pos h]
theorem digits_ge {n : Nat} (h : ¬ n < 128) : digits n = UInt8.ofNat (n % 128 + 128) :: digits (n / 128) := by rw [digits, dif_neg h]
theorem digits_len : ∀ (k n : Nat), n < 128 ^ (k + 1) → (digits n).length ≤ k + 1 := by
  intro k
  induction k with
  | zero => intro n h; rw [digits_lt (by simpa using h)]; simp
  | succ k ih =>
    intro n h
    by_cases hn : n < 128
    · rw [digits_lt hn]; simp
    · rw [digits_ge hn]
      have := ih (n / 128) (by rw [Nat.div_lt_iff_lt_mul (by omega)]; exact h)
      simp; omega
theorem or128 (n : Nat) : (UInt8.ofNat n ||| 128) = UInt8.ofNat (n % 128 + 128) := by
  have h : ∀ m : Nat, m < 256 → m ||| 128 = m % 128 + 128 := by decide +kernel
  apply UInt8.toNat_inj.1
  rw [UInt8.toNat_or, UInt8.toNat_ofNat', UInt8.toNat_ofNat']
  have h1 := h (n % 256) (Nat.mod_lt _ (by omega))
  have h2 : n % 2 ^ 8 ||| (128 : UInt8).toNat = n % 256 ||| 128 := rfl
  rw [h2, h1]
  omega

def zig (n : Int) : Nat := if n < 0 then (-(n + 1)).toNat * 2 + 1 else n.toNat * 2
def zag (n : Nat) : Int := if n % 2 = 1 then -((n / 2 : Nat) : Int) - 1 else ((n / 2 : Nat) : Int)
theorem zag_zig (n : Int) : zag (zig n) = n := by
  unfold zag zig
  split <;> split <;> omega
theorem zig_zag (n : Nat) : zig (zag n) = n := by
  unfold zag zig
  split <;> split <;> omega
/-- A place as eight bytes, the highest first. -/
def placeB (k : Nat) : List UInt8 := [UInt8.ofNat (k / 72057594037927936), UInt8.ofNat (k / 281474976710656), UInt8.ofNat (k / 1099511627776), UInt8.ofNat (k / 4294967296),
  UInt8.ofNat (k / 16777216), UInt8.ofNat (k / 65536), UInt8.ofNat (k / 256), UInt8.ofNat k]

structure PartP where
  kind : UInt8
  u : Nat
  i : Int
  f : Nat
  s : List UInt8
  b : Bool
structure PartR where
  kind : UInt8
  u : Nat
  i : Int
  k : Nat
  s : List UInt8
  b : Bool
  deriving DecidableEq
def encP (p : PartP) : List UInt8 :=
  if p.kind = 117 then digits p.u else if p.kind = 105 then digits (zig p.i) else if p.kind = 102 then placeB (key p.f)
  else if p.kind = 115 then digits p.s.length ++ p.s else if p.kind = 98 then [if p.b then 1 else 0] else []
def encR (p : PartR) : List UInt8 :=
  if p.kind = 117 then digits p.u else if p.kind = 105 then digits (zig p.i) else if p.kind = 102 then placeB p.k
  else if p.kind = 115 then digits p.s.length ++ p.s else if p.kind = 98 then [if p.b then 1 else 0] else []
def plain (p : PartP) : PartR :=
  { kind := p.kind, u := if p.kind = 117 then p.u else 0, i := if p.kind = 105 then p.i else 0, k := if p.kind = 102 then key p.f else 0,
    s := if p.kind = 115 then p.s else [], b := if p.kind = 98 then p.b else false }
theorem encR_plain (p : PartP) : encR (plain p) = encP p := by
  unfold encR encP plain
  dsimp only
  split
  · rfl
  · split
    · rfl
    · split
      · rfl
      · split
        · rfl
        · split <;> rfl
def encAll (l : List PartP) : List UInt8 := (l.map encP).flatten
theorem encAll_nil : encAll [] = [] := rfl
theorem encAll_snoc (l : List PartP) (p : PartP) : encAll (l ++ [p]) = encAll l ++ encP p := by simp [encAll]
theorem encAll_cons (p : PartP) (l : List PartP) : encAll (p :: l) = encP p ++ encAll l := by simp [encAll]

/-! ### Reading: a value, how many bytes were read, the error's number -/
def numGo : Nat → Nat → List UInt8 → Nat × Nat × Nat
  | n, i, [] => (0, i, 2)
  | n, i, x :: r =>
    if i = 9 ∧ 1 < x.toNat then (0, 10, 1)
    else if x.toNat < 128 then (if x.toNat = 0 ∧ 0 < i then (0, i + 1, 4) else (n + x.toNat * 128 ^ i, i + 1, 0))
    else numGo (n + (x.toNat % 128) * 128 ^ i) (i + 1) r
def num (l : List UInt8) : Nat × Nat × Nat := numGo 0 0 l
def place (l : List UInt8) : Nat := l.foldl (fun k x => k * 256 + x.toNat) 0

end Go.Proofs.YtieejbkbdfccdaaDoor
