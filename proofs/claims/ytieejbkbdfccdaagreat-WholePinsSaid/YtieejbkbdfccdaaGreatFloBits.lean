/- Floating numbers by their bits: the order of their places is the order of what they are. -/
import Ieee.Arith
import GoSem.Core.Float
set_option linter.unusedVariables false
set_option linter.unusedSimpArgs false
namespace Go.Proofs.YtieejbkbdfccdaaGreat
open Go Ieee
def H63 : Nat := 9223372036854775808
def INF : Nat := 9218868437227405312
def NAN : Nat := 9221120237041090561
def isN (a : Nat) : Bool := decide (INF < a % H63)
def canon (a : Nat) : Nat := if isN a then NAN else a
def key (a : Nat) : Nat := if canon a < H63 then canon a + H63 else 18446744073709551615 - canon a
theorem isN_NAN : isN NAN = true := by decide
theorem canon_lt {a : Nat} (h : a < 2 * H63) : canon a < 2 * H63 := by
  unfold canon
  by_cases hn : isN a = true
  · rw [if_pos hn]; decide
  · rw [if_neg hn]; exact h
theorem canon_canon (a : Nat) : canon (canon a) = canon a := by
  unfold canon
  by_cases h : isN a = true
  · simp [h, isN_NAN]
  · simp [h]
theorem key_canon (a : Nat) : key (canon a) = key a := by unfold key; rw [canon_canon]
theorem key_lt {a : Nat} (h : a < 2 * H63) : key a < 2 * H63 := by
  have := canon_lt h
  unfold key H63 at *
  split <;> omega
/-! ### What is read of a word -/
def fd : Format := Ieee.double
theorem fd_sw : fd.signWeight = H63 := by decide
theorem fd_bin : fd.binade = 4503599627370496 := by decide
theorem fd_inf : fd.infRung = INF := by decide
def neg (a : Nat) : Bool := a / H63 % 2 == 1
/-- How great a rung's number is, in units of the least place. -/
def mg (r : Nat) : Nat := if r < 4503599627370496 then r else (4503599627370496 + r % 4503599627370496) * 2 ^ (r / 4503599627370496 - 1)
theorem read_nan {a : Nat} (h : isN a = true) : ∃ s t, fd.read a = .nan s t := by
  unfold isN at h
  simp only [decide_eq_true_eq] at h
  unfold Format.read
  simp only [fd_sw, fd_bin, fd_inf]
  have h1 : ¬ a % H63 < 4503599627370496 := by unfold INF at h; omega
  have h2 : ¬ a % H63 < INF := by omega
  have h3 : ¬ a % H63 = INF := by omega
  simp only [h1, h2, h3, if_false]
  exact ⟨_, _, rfl⟩
theorem read_inf {a : Nat} (h : a % H63 = INF) : fd.read a = .infinity (neg a) := by
  unfold Format.read
  simp only [fd_sw, fd_bin, fd_inf]
  have h1 : ¬ a % H63 < 4503599627370496 := by rw [h]; decide
  have h2 : ¬ a % H63 < INF := by omega
  simp only [h1, h2, h, if_false, if_true]
  rfl
theorem read_num {a : Nat} (h : a % H63 < INF) : ∃ m k : Nat, fd.read a = .number (neg a) m (fd.leastPlace + k) ∧ m * 2 ^ k = mg (a % H63) := by
  unfold Format.read
  simp only [fd_sw, fd_bin, fd_inf]
  by_cases h1 : a % H63 < 4503599627370496
  · simp only [h1, if_true]
    exact ⟨a % H63, 0, by simp [neg], by simp [mg, h1]⟩
  · simp only [h1, h, if_false, if_true]
    exact ⟨_, _, rfl, by simp [mg, h1]⟩
theorem mg_lt {r s : Nat} (h : r < s) : mg r < mg s := by
  unfold mg
  by_cases h1 : r < 4503599627370496
  · by_cases h2 : s < 4503599627370496
    · simp [h1, h2, h]
    · simp only [h1, h2, if_true, if_false]
      have : 1 ≤ 2 ^ (s / 4503599627370496 - 1) := Nat.one_le_two_pow
      calc r < 4503599627370496 := h1
        _ ≤ 4503599627370496 + s % 4503599627370496 := by omega
        _ = (4503599627370496 + s % 4503599627370496) * 1 := by omega
        _ ≤ _ := Nat.mul_le_mul_left _ this
  · have h2 : ¬ s < 4503599627370496 := by omega
    simp only [h1, h2, if_false]
    by_cases hq : r / 4503599627370496 = s / 4503599627370496
    · rw [hq]
      apply Nat.mul_lt_mul_of_pos_right
      · have e1 := Nat.div_add_mod r 4503599627370496
        have e2 := Nat.div_add_mod s 4503599627370496
        rw [hq] at e1
        omega
      · exact Nat.two_pow_pos _
    · have hlt : r / 4503599627370496 < s / 4503599627370496 := by
        have := Nat.div_le_div_right (c := 4503599627370496) (Nat.le_of_lt h)
        omega
      have hr1 : 1 ≤ r / 4503599627370496 := by omega
      have hp : 2 ^ (r / 4503599627370496) ≤ 2 ^ (s / 4503599627370496 - 1) := Nat.pow_le_pow_right (by omega) (by omega)
      have hs : 2 ^ (r / 4503599627370496) = 2 * 2 ^ (r / 4503599627370496 - 1) := by
        rw [← Nat.pow_succ']
        congr 1
        omega
      have hmod : r % 4503599627370496 < 4503599627370496 := Nat.mod_lt _ (by omega)
      calc (4503599627370496 + r % 4503599627370496) * 2 ^ (r / 4503599627370496 - 1)
          < (4503599627370496 * 2) * 2 ^ (r / 4503599627370496 - 1) := Nat.mul_lt_mul_of_pos_right (by omega) (Nat.two_pow_pos _)
        _ = 4503599627370496 * 2 ^ (r / 4503599627370496) := by rw [hs, Nat.mul_assoc]
        _ ≤ 4503599627370496 * 2 ^ (s / 4503599627370496 - 1) := Nat.mul_le_mul_left _ hp
        _ ≤ (4503599627370496 + s % 4503599627370496) * 2 ^ (s / 4503599627370496 - 1) := Nat.mul_le_mul_right _ (by omega)
theorem mg_lt_iff {r s : Nat} : mg r < mg s ↔ r < s := by
  constructor
  · intro h
    rcases Nat.lt_trichotomy r s with h1 | h1 | h1
    · exact h1
    · subst h1; omega
    · have := mg_lt h1; omega
  · exact mg_lt
theorem mg_eq_iff {r s : Nat} : mg r = mg s ↔ r = s := by
  constructor
  · intro h
    rcases Nat.lt_trichotomy r s with h1 | h1 | h1
    · have := mg_lt h1; omega
    · exact h1
    · have := mg_lt h1; omega
  · rintro rfl; rfl
/-- A word as a whole number, in order: the two noughts are one. -/
def oi (a : Nat) : Int := if neg a then -((a % H63 : Nat) : Int) else (a % H63 : Nat)
def sg (s : Bool) (n : Nat) : Int := if s then -(n : Int) else n
theorem cmp_congr {a b c d : Int} (hlt : a < b ↔ c < d) (heq : a = b ↔ c = d) : compare a b = compare c d := by
  simp only [compare, compareOfLessAndEq]
  by_cases h1 : a < b
  · simp [h1, hlt.1 h1]
  · have h2 : ¬ c < d := fun h => h1 (hlt.2 h)
    by_cases h3 : a = b
    · simp [h1, h2, h3, heq.1 h3]
    · have h4 : ¬ c = d := fun h => h3 (heq.2 h)
      simp [h1, h2, h3, h4]
theorem cmp_lt {a b : Int} (h : a < b) : compare a b = .lt := by simp [compare, compareOfLessAndEq, h]
theorem cmp_gt {a b : Int} (h : b < a) : compare a b = .gt := by
  have h1 : ¬ a < b := by omega
  have h2 : ¬ a = b := by omega
  simp [compare, compareOfLessAndEq, h1, h2]
theorem cmp_eq {a b : Int} (h : a = b) : compare a b = .eq := by subst h; simp [compare, compareOfLessAndEq]
theorem signed_scale (s : Bool) (m k b : Nat) (h : b ≤ k) : signed s m (k - b) * (2 ^ b : Nat) = sg s (m * 2 ^ k) := by
  have : m <<< (k - b) * 2 ^ b = m * 2 ^ k := by
    rw [Nat.shiftLeft_eq, Nat.mul_assoc, ← Nat.pow_add]
    congr 2
    omega
  unfold signed sg
  cases s
  · simp only [Bool.false_eq_true, if_false]
    rw [← this]; push_cast; rfl
  · simp only [if_true]
    rw [← this]; push_cast; rw [Int.neg_mul]
theorem sg_lt_iff (s t : Bool) (m n : Nat) (x y : Nat) (h : ∀ p q : Nat, (p = m ∧ q = n ∨ p = n ∧ q = m) → True) (hlt : m < n ↔ x < y) (hgt : n < m ↔ y < x) (h0 : m = 0 ↔ x = 0) (h0' : n = 0 ↔ y = 0) :
    (sg s m < sg t n ↔ sg s x < sg t y) ∧ (sg s m = sg t n ↔ sg s x = sg t y) := by
  unfold sg
  cases s <;> cases t <;> simp only [Bool.false_eq_true, if_false, if_true] <;> constructor <;> omega
theorem order_num {a b : Nat} (ha : isN a = false) (hb : isN b = false) : fd.order a b = some (compare (oi a) (oi b)) := by
  have ha' : a % H63 ≤ INF := by unfold isN at ha; simpa using ha
  have hb' : b % H63 ≤ INF := by unfold isN at hb; simpa using hb
  unfold Format.order
  have hoi : ∀ c, oi c = sg (neg c) (c % H63) := fun c => rfl
  by_cases h1 : a % H63 = INF
  · rw [read_inf h1]
    by_cases h2 : b % H63 = INF
    · rw [read_inf h2]
      simp only [Datum.order]
      rw [hoi, hoi, h1, h2]
      cases neg a <;> cases neg b <;> simp only [sg, Bool.false_eq_true, if_false, if_true] <;> first | (rw [cmp_eq rfl]; rfl) | (rw [cmp_lt (by decide)]; rfl) | (rw [cmp_gt (by decide)]; rfl)
    · obtain ⟨n, j, hrb, hm⟩ := read_num (a := b) (by omega)
      rw [hrb]
      simp only [Datum.order]
      rw [hoi, hoi, h1]
      have : ((b % H63 : Nat) : Int) < INF := by omega
      have hpos : (0 : Int) < INF := by decide
      cases neg a <;> cases neg b <;> simp only [sg, Bool.false_eq_true, if_false, if_true] <;> first | rw [cmp_lt (by omega)] | rw [cmp_gt (by omega)]
  · obtain ⟨m, i, hra, hma⟩ := read_num (a := a) (by omega)
    rw [hra]
    by_cases h2 : b % H63 = INF
    · rw [read_inf h2]
      simp only [Datum.order]
      rw [hoi, hoi, h2]
      have : ((a % H63 : Nat) : Int) < INF := by omega
      cases neg a <;> cases neg b <;> simp only [sg, Bool.false_eq_true, if_false, if_true] <;> first | rw [cmp_lt (by omega)] | rw [cmp_gt (by omega)]
    · obtain ⟨n, j, hrb, hmb⟩ := read_num (a := b) (by omega)
      rw [hrb]
      simp only [Datum.order]
      congr 1
      have e1 : (fd.leastPlace + (i : Int) - min (fd.leastPlace + i) (fd.leastPlace + j)).toNat = i - min i j := by omega
      have e2 : (fd.leastPlace + (j : Int) - min (fd.leastPlace + i) (fd.leastPlace + j)).toNat = j - min i j := by omega
      rw [e1, e2]
      have s1 := signed_scale (neg a) m i (min i j) (Nat.min_le_left _ _)
      have s2 := signed_scale (neg b) n j (min i j) (Nat.min_le_right _ _)
      rw [hma] at s1
      rw [hmb] at s2
      have hp : (0 : Int) < ((2 ^ min i j : Nat) : Int) := by exact_mod_cast Nat.two_pow_pos _
      have hz : mg 0 = 0 := rfl
      generalize ((2 ^ min i j : Nat) : Int) = q at s1 s2 hp
      generalize signed (neg a) m (i - min i j) = A at s1
      generalize signed (neg b) n (j - min i j) = B at s2
      obtain ⟨g1, g2⟩ := sg_lt_iff (neg a) (neg b) (mg (a % H63)) (mg (b % H63)) (a % H63) (b % H63) (fun _ _ _ => trivial) mg_lt_iff mg_lt_iff
        (by have := mg_eq_iff (r := a % H63) (s := 0); rw [hz] at this; exact this) (by have := mg_eq_iff (r := b % H63) (s := 0); rw [hz] at this; exact this)
      refine cmp_congr ?_ ?_
      · rw [hoi, hoi, ← g1, ← s1, ← s2]
        exact (Int.mul_lt_mul_right hp).symm
      · rw [hoi, hoi, ← g2, ← s1, ← s2]
        exact ⟨fun h => by rw [h], fun h => Int.eq_of_mul_eq_mul_right (Int.ne_of_gt hp) h⟩
theorem order_nan {a b : Nat} (h : isN a = true ∨ isN b = true) : fd.order a b = none := by
  unfold Format.order
  rcases h with h | h
  · obtain ⟨s, t, hr⟩ := read_nan h
    rw [hr]; cases fd.read b <;> rfl
  · obtain ⟨s, t, hr⟩ := read_nan h
    rw [hr]; cases fd.read a <;> rfl
end Go.Proofs.YtieejbkbdfccdaaGreat
