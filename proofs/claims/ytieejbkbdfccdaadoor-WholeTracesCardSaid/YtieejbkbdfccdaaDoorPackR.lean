/- What a Reader's calls do: a value, or a Fault that is thrown. -/
import Derived.Test.YtieejbkbdfccdaaDoorPrims4
import Derived.Test.YtieejbkbdfccdaaDoorTypes
import Derived.Test.YtieejbkbdfccdaaDoorPackM
import Derived.Test.YtieejbkbdfccdaaDoorFloWalk
import Derived.Test.YtieejbkbdfccdaaDoorWPack
set_option linter.unusedVariables false
set_option linter.unusedSimpArgs false
namespace Go.Proofs.YtieejbkbdfccdaaDoor
open Go

/-- At block 'b' lies a Reader of the slice 'v', whose bytes are 'B', of which 'k' were read. -/
structure IsRd (w : World) (b : Nat) (v : Value) (B : List UInt8) (k : Nat) : Prop where
  cell : mm w b = [v, i64 k]
  fz : fz w b = false
  rd : RdV w v B.length (bs B)
  le : k ≤ B.length
  ne : 0 < B.length → ∀ c, v.ownBlock = some c → c ≠ b
theorem RdV.len {w : World} {v : Value} {n : Nat} {cs : List Value} (h : RdV w v n cs) : n ≤ 9223372036854775807 := by
  rcases h with ⟨_, _, _, h0, _⟩ | ⟨_, _, _, _, h1, h2, _⟩
  · omega
  · have : maxLen = 9223372036854775807 := rfl
    omega
theorem rdb_fr {w w' : World} {S : List Nat} {v : Value} {B : List UInt8} (h : RdV w v B.length (bs B)) (hf : Fr S w w') (hS : 0 < B.length → ∀ b, v.ownBlock = some b → b < sz w → b ∉ S) : RdV w' v B.length (bs B) := by
  by_cases hn : 0 < B.length
  · rcases h with h | ⟨b, o, c, rfl, h1, h2, h3, h4, h5⟩
    · exact .inl h
    · have hm := hf.mm h3 (hS hn b rfl h3)
      exact .inr ⟨b, o, c, rfl, h1, h2, hf.lt h3, by rw [hm]; exact h4, by rw [hm]; exact h5⟩
  · have h0 : B = [] := List.eq_nil_of_length_eq_zero (by omega)
    subst h0
    obtain ⟨a, c, rfl⟩ := sl_of h
    exact .inl ⟨a, c, rfl, rfl, rfl⟩
theorem rdb_lt {w : World} {v : Value} {B : List UInt8} (h : RdV w v B.length (bs B)) (h0 : 0 < B.length) {c : Nat} (hc : v.ownBlock = some c) : c < sz w := by
  rcases h with ⟨_, _, _, h1, _⟩ | ⟨b, o, cc, rfl, _, _, h3, _⟩
  · omega
  · simp [Value.ownBlock] at hc; omega
theorem IsRd.fr {w w' : World} {b : Nat} {v : Value} {B : List UInt8} {k : Nat} {S : List Nat} (h : IsRd w b v B k) (hf : Fr S w w') (hb : b ∉ S) (hv : 0 < B.length → ∀ c, v.ownBlock = some c → c < sz w → c ∉ S) : IsRd w' b v B k := by
  have hlt := lt_of_fz h.fz
  exact ⟨by rw [hf.mm hlt hb, h.cell], by rw [hf.fz hlt hb, h.fz], rdb_fr h.rd hf hv, h.le, h.ne⟩
theorem IsRd.fr0 {w w' : World} {b : Nat} {v : Value} {B : List UInt8} {k : Nat} (h : IsRd w b v B k) (hf : Fr [] w w') : IsRd w' b v B k := h.fr hf (by simp) (by simp)
theorem IsRd.at_ {w : World} {b : Nat} {v : Value} {B : List UInt8} {k k' : Nat} (h : IsRd w b v B k) (hk : k' ≤ B.length) : IsRd (wr w b [v, i64 k']) b v B k' :=
  ⟨mm_wr_same h.fz _, by rw [fz_wr, h.fz], rdb_fr h.rd ((Fr.refl [b] w).wr (.inl (by simp)) _) (fun h0 c hc _ => by simpa using h.ne h0 c hc), hk, h.ne⟩

def oneM : List UInt8 → UInt8 × Nat × Nat
  | [] => (0, 0, 2)
  | x :: _ => (x, 1, 0)
theorem drop_gb {B : List UInt8} {k : Nat} (h : k < B.length) : B.drop k = gb B k :: B.drop (k + 1) := by
  rw [List.drop_eq_getElem_cons h]
  simp [gb, h]
theorem and127 (x : UInt8) : (x &&& 127).toNat = x.toNat % 128 := by
  have h : ∀ m : Nat, m < 256 → m &&& 127 = m % 128 := by decide +kernel
  rw [UInt8.toNat_and]
  exact h _ x.toNat_lt
theorem or_shift {n i y : Nat} (h : n < 128 ^ i) : n ||| (y * 2 ^ (7 * i)) = n + y * 128 ^ i := by
  have e : (2 : Nat) ^ (7 * i) = 128 ^ i := by rw [Nat.pow_mul]
  have := Nat.two_pow_add_eq_or_of_lt (i := 7 * i) (b := n) (by rw [e]; exact h) y
  rw [Nat.or_comm, Nat.mul_comm y, ← this, e, Nat.mul_comm, Nat.add_comm]

def RU (w : World) (b : Nat) (v : Value) (B : List UInt8) (k : Nat) (m : Nat) (e : Env) (w' : World) : Prop :=
  ∃ (i n : Nat) (s : Int), m = B.length - (k + i) ∧ i ≤ 9 ∧ n < 128 ^ i ∧ s = 7 * (i : Int) ∧ IsRd w' b v B (k + i) ∧ Fr [b] w w' ∧ numGo n i (B.drop (k + i)) = num (B.drop k) ∧ e 0 = pt b 0 ∧ e 3 = u64 n ∧ e 4 = i64 s

theorem zag_bits (n : Nat) (hn : n < 2 * H63) :
    (BitVec.ofInt 64 (IntKind.i64.wrap ((n / 2 : Nat) : Int)) ^^^ BitVec.ofInt 64 (IntKind.i64.wrap (0 - IntKind.i64.wrap ((n &&& 1 : Nat) : Int)))).toInt = zag n := by
  have hH : 2 * H63 = 18446744073709551616 := by decide
  rw [hH] at hn
  have h1 : n &&& 1 = n % 2 := Nat.and_one_is_mod n
  have e1 : IntKind.i64.wrap ((n / 2 : Nat) : Int) = ((n / 2 : Nat) : Int) := wrap64 (by omega) (by omega)
  rw [h1, e1]
  unfold zag
  by_cases hp : n % 2 = 1
  · rw [if_pos hp, hp]
    have e2 : BitVec.ofInt 64 (IntKind.i64.wrap (0 - IntKind.i64.wrap ((1 : Nat) : Int))) = BitVec.allOnes 64 := by decide
    have e3 : ∀ x : BitVec 64, x ^^^ BitVec.allOnes 64 = ~~~ x := fun x => by rw [BitVec.xor_comm, BitVec.allOnes_xor]
    rw [e2, e3, BitVec.toInt_not, BitVec.toNat_ofInt]
    have e4 : (((n / 2 : Nat) : Int) % ((2 ^ 64 : Nat) : Int)).toNat = n / 2 := by omega
    rw [e4]
    simp only [Int.bmod]
    omega
  · have hp0 : n % 2 = 0 := by omega
    rw [if_neg hp, hp0]
    have e2 : BitVec.ofInt 64 (IntKind.i64.wrap (0 - IntKind.i64.wrap ((0 : Nat) : Int))) = 0 := by decide
    have e3 : ∀ x : BitVec 64, x ^^^ 0 = x := fun x => by simp
    rw [e2, e3, BitVec.toInt_ofInt]
    simp only [Int.bmod]
    omega
theorem num_lt {l : List UInt8} (h : (num l).2.2 = 0) : (num l).1 < 2 * H63 := by
  have key : ∀ (l : List UInt8) (n i : Nat), i ≤ 9 → n < 128 ^ i → (numGo n i l).2.2 = 0 → (numGo n i l).1 < 2 * H63 := by
    intro l
    induction l with
    | nil => intro n i _ _ h; simp [numGo] at h
    | cons x r ih =>
      intro n i hi hn h
      have hx := x.toNat_lt
      rw [numGo] at h ⊢
      by_cases hbad : i = 9 ∧ 1 < x.toNat
      · rw [if_pos hbad] at h; simp at h
      · rw [if_neg hbad] at h ⊢
        have h9 : (128 : Nat) ^ 9 = H63 := by decide
        by_cases hx128 : x.toNat < 128
        · rw [if_pos hx128] at h ⊢
          by_cases hz : x.toNat = 0 ∧ 0 < i
          · rw [if_pos hz] at h; simp at h
          · rw [if_neg hz]
            show n + x.toNat * 128 ^ i < 2 * H63
            by_cases hi9 : i = 9
            · subst hi9
              have hx1 : x.toNat ≤ 1 := by
                have : ¬ 1 < x.toNat := fun h => hbad ⟨rfl, h⟩
                omega
              have := Nat.mul_le_mul_right (128 ^ 9) hx1
              omega
            · have h8 : 128 ^ i ≤ 128 ^ 8 := Nat.pow_le_pow_right (by omega) (by omega)
              have h1 : x.toNat * 128 ^ i ≤ 127 * 128 ^ 8 := Nat.mul_le_mul (by omega) h8
              have h2 : 128 ^ 8 + 127 * 128 ^ 8 < 2 * H63 := by decide
              omega
        · rw [if_neg hx128] at h ⊢
          have hi8 : i < 9 := by
            rcases Nat.lt_or_ge i 9 with h | h
            · exact h
            · exact absurd ⟨by omega, by omega⟩ hbad
          refine ih _ (i + 1) (by omega) ?_ h
          have h1 : x.toNat % 128 * 128 ^ i ≤ 127 * 128 ^ i := Nat.mul_le_mul_right _ (by omega)
          have h2 : 128 ^ (i + 1) = 128 * 128 ^ i := by rw [Nat.pow_succ, Nat.mul_comm]
          omega
  exact key l 0 0 (by omega) (by omega) h
theorem zag_range {n : Nat} (hn : n < 2 * H63) : -9223372036854775808 ≤ zag n ∧ zag n < 9223372036854775808 := by
  have hH : 2 * H63 = 18446744073709551616 := by decide
  rw [hH] at hn
  unfold zag; split <;> omega
theorem bitsi_xor (x y : Int) : (Op.intBits .xor .i64 x y : Sem Value) = pure (.int .i64 (IntKind.i64.wrap (BitVec.ofInt 64 x ^^^ BitVec.ofInt 64 y).toNat)) := rfl
theorem wrap_toNat (x : BitVec 64) : IntKind.i64.wrap (x.toNat : Int) = x.toInt := by
  have := x.isLt
  rw [BitVec.toInt_eq_toNat_cond]
  unfold IntKind.wrap
  simp only [IntKind.bits, IntKind.signed, Bool.true_and, ge_iff_le, decide_eq_true_eq]
  split <;> split <;> omega

/-- A place, read of eight bytes. -/
def placeM : Nat → Nat → List UInt8 → Nat × Nat × Nat
  | 0, k, _ => (k, 0, 0)
  | n + 1, k, [] => (0, 0, 2)
  | n + 1, k, x :: r => let q := placeM n (k * 256 + x.toNat) r; (q.1, q.2.1 + 1, q.2.2)
def floatM (l : List UInt8) : Nat × Nat × Nat :=
  let q := placeM 8 0 l
  if q.2.2 ≠ 0 then q else if key (backB q.1) = q.1 then (backB q.1, q.2.1, 0) else (0, q.2.1, 4)
theorem placeM_lt : ∀ (n k : Nat) (l : List UInt8) (m : Nat), k < 256 ^ m → (placeM n k l).2.2 = 0 → (placeM n k l).1 < 256 ^ (m + n) := by
  intro n
  induction n with
  | zero => intro k l m hk _; exact hk
  | succ n ih =>
    intro k l m hk h
    cases l with
    | nil => simp [placeM] at h
    | cons x r =>
      simp only [placeM] at h ⊢
      have hx := x.toNat_lt
      have := ih (k * 256 + x.toNat) r (m + 1) (by rw [Nat.pow_succ]; omega) h
      have e : m + (n + 1) = m + 1 + n := by omega
      rw [e]; exact this

def RF (w : World) (b : Nat) (v : Value) (B : List UInt8) (k : Nat) (m : Nat) (e : Env) (w' : World) : Prop :=
  ∃ (i n : Nat), m + i = 8 ∧ n < 256 ^ i ∧ IsRd w' b v B (k + i) ∧ Fr [b] w w' ∧ (placeM 8 0 (B.drop k)).1 = (placeM m n (B.drop (k + i))).1 ∧ (placeM 8 0 (B.drop k)).2.1 = (placeM m n (B.drop (k + i))).2.1 + i ∧
    (placeM 8 0 (B.drop k)).2.2 = (placeM m n (B.drop (k + i))).2.2 ∧ e 0 = pt b 0 ∧ e 3 = u64 n ∧ e 6 = i64 i

def flagM : List UInt8 → Bool × Nat × Nat
  | [] => (false, 0, 2)
  | x :: _ => if 1 < x.toNat then (false, 1, 4) else (decide (x = 1), 1, 0)
end Go.Proofs.YtieejbkbdfccdaaDoor
