/- What a Reader's further calls do: texts, parts of any kind. -/
import Derived.Test.YtieejbkbdfccdaaDoorPackR
import Derived.Test.YtieejbkbdfccdaaDoorPackC
set_option linter.unusedVariables false
set_option linter.unusedSimpArgs false
namespace Go.Proofs.YtieejbkbdfccdaaDoor
open Go

theorem rd_sub {w : World} {ab ao N ac : Nat} {B : List UInt8} (h : RdV w (sl ab ao N ac) N (bs B)) (hN : B.length = N) {lo hi : Nat} (h1 : lo ≤ hi) (h2 : hi ≤ N) :
    RdV w (.slice (some ⟨ab, if ac = lo then ao else ao + lo * 1, none⟩) (hi - lo) (ac - lo)) ((B.drop lo).take (hi - lo)).length (bs ((B.drop lo).take (hi - lo))) := by
  have hl : ((B.drop lo).take (hi - lo)).length = hi - lo := by simp; omega
  rw [hl]
  rcases h with ⟨a, c, hv, h0, _⟩ | ⟨b, o, c, hv, hc1, hc2, hlt, hin, hcs⟩
  · have : hi - lo = 0 := by omega
    rw [this]
    exact .inl ⟨_, _, rfl, rfl, by simp [bs]⟩
  · simp only [Value.slice.injEq, Option.some.injEq, Addr.mk.injEq] at hv
    obtain ⟨⟨rfl, rfl, _⟩, _, rfl⟩ := hv
    by_cases h0 : hi - lo = 0
    · rw [h0]
      exact .inl ⟨_, _, rfl, rfl, by simp [bs]⟩
    · have hne : ¬ ac = lo := by omega
      rw [if_neg hne, Nat.mul_one]
      rw [bs_length] at hin hcs
      refine .inr ⟨ab, ao + lo, ac - lo, rfl, by omega, by omega, hlt, by rw [bs_length, hl]; omega, ?_⟩
      rw [bs_length, hl, ← bs_take, ← bs_drop, ← hcs, List.drop_take, List.take_take, List.drop_drop]
      congr 1
      omega

def strM (most : Int) (l : List UInt8) : List UInt8 × Nat × Nat :=
  let q := num l
  if q.2.2 ≠ 0 then ([], q.2.1, q.2.2) else if (max most 0).toNat < q.1 then ([], q.2.1, 3) else if l.length - q.2.1 < q.1 then ([], q.2.1, 2) else ((l.drop q.2.1).take q.1, q.2.1 + q.1, 0)

theorem num_le (l : List UInt8) : (num l).2.1 ≤ l.length := by
  have key : ∀ (l : List UInt8) (n i : Nat), i ≤ 9 → (numGo n i l).2.1 ≤ i + l.length := by
    intro l
    induction l with
    | nil => intro n i hi; simp [numGo]
    | cons x r ih =>
      intro n i hi
      rw [numGo, List.length_cons]
      by_cases hbad : i = 9 ∧ 1 < x.toNat
      · rw [if_pos hbad]; simp only; omega
      · rw [if_neg hbad]
        by_cases hx : x.toNat < 128
        · rw [if_pos hx]
          split <;> simp only <;> omega
        · rw [if_neg hx]
          have := x.toNat_lt
          have hi8 : i < 9 := by
            rcases Nat.lt_or_ge i 9 with h | h
            · exact h
            · exact absurd ⟨by omega, by omega⟩ hbad
          have := ih (n + x.toNat % 128 * 128 ^ i) (i + 1) (by omega)
          omega
  have := key l 0 0 (by omega)
  unfold num
  omega
theorem num_pos {l : List UInt8} (h : (num l).2.2 = 0) : 0 < (num l).2.1 := by
  cases l with
  | nil => simp [num, numGo] at h
  | cons x r =>
    have key : ∀ (l : List UInt8) (n i : Nat), (numGo n i l).2.2 = 0 → i ≤ (numGo n i l).2.1 := by
      intro l
      induction l with
      | nil => intro n i _; simp [numGo]
      | cons x r ih =>
        intro n i h
        rw [numGo] at h ⊢
        by_cases hbad : i = 9 ∧ 1 < x.toNat
        · rw [if_pos hbad]; simp only; omega
        · rw [if_neg hbad] at h ⊢
          by_cases hx : x.toNat < 128
          · rw [if_pos hx]
            split <;> simp only <;> omega
          · rw [if_neg hx] at h ⊢
            have := ih _ _ h
            omega
    unfold num at h ⊢
    rw [numGo, if_neg (by omega)] at h ⊢
    by_cases hx : x.toNat < 128
    · rw [if_pos hx]
      split <;> simp only <;> omega
    · rw [if_neg hx] at h ⊢
      have := key _ _ _ h
      omega

def uptoM (most : Int) (l : List UInt8) : Nat × Nat × Nat :=
  let q := num l
  if q.2.2 ≠ 0 then q else if (max most 0).toNat < q.1 then (0, q.2.1, 1) else q

def zP (kind : UInt8) : PartP := ⟨kind, 0, 0, 0, [], false⟩
def partM (kind : UInt8) (most : Int) (l : List UInt8) : PartP × Nat × Nat :=
  if kind = 117 then let q := num l; ({ zP kind with u := q.1 }, q.2.1, q.2.2)
  else if kind = 105 then let q := num l; ({ zP kind with i := zag q.1 }, q.2.1, q.2.2)
  else if kind = 102 then let q := floatM l; ({ zP kind with f := q.1 }, q.2.1, q.2.2)
  else if kind = 115 then let q := strM most l; ({ zP kind with s := q.1 }, q.2.1, q.2.2)
  else if kind = 98 then let q := flagM l; ({ zP kind with b := q.1 }, q.2.1, q.2.2)
  else (zP kind, 0, 5)
theorem floatM_lt {l : List UInt8} (h : (floatM l).2.2 = 0) : (floatM l).1 < 2 * H63 := by
  have hp := placeM_lt 8 0 l 0 (by omega)
  have h256 : (256 : Nat) ^ (0 + 8) = 2 * H63 := by decide
  unfold floatM at h ⊢
  generalize placeM 8 0 l = r at *
  obtain ⟨r1, r2, r3⟩ := r
  simp only at h hp ⊢
  by_cases h3 : r3 = 0
  · subst h3
    have hp := hp rfl
    rw [h256] at hp
    simp only [ne_eq, not_true_eq_false, if_false] at h ⊢
    split
    · exact backB_lt hp
    · show 0 < 2 * H63; decide
  · simp only [ne_eq, h3, not_false_eq_true, if_true] at h ⊢
theorem partM_ok {kind : UInt8} {most : Int} {l : List UInt8} (h : (partM kind most l).2.2 = 0) : okP (partM kind most l).1 := by
  unfold partM at h ⊢
  have hH : 0 < 2 * H63 := by decide
  have z : okP (zP kind) := ⟨hH, ⟨by show (-9223372036854775808 : Int) ≤ 0; omega, by show (0 : Int) < 9223372036854775808; omega⟩, hH⟩
  split
  · rename_i hk
    rw [if_pos hk] at h
    exact ⟨num_lt h, z.2⟩
  · rename_i hk
    rw [if_neg hk] at h
    split
    · rename_i hk
      rw [if_pos hk] at h
      exact ⟨z.1, zag_range (num_lt h), z.2.2⟩
    · rename_i hk
      rw [if_neg hk] at h
      split
      · rename_i hk
        rw [if_pos hk] at h
        exact ⟨z.1, z.2.1, floatM_lt h⟩
      · split
        · exact z
        · split
          · exact z
          · exact z

theorem placeM_short : ∀ (n k : Nat) (l : List UInt8), l.length < n → placeM n k l = (0, l.length, 2) := by
  intro n
  induction n with
  | zero => intro k l h; omega
  | succ n ih =>
    intro k l h
    cases l with
    | nil => rfl
    | cons x r =>
      simp only [placeM]
      rw [ih _ r (by simpa using h)]
      rfl
theorem placeM_long : ∀ (n k : Nat) (l : List UInt8), n ≤ l.length → (placeM n k l).2 = (n, 0) := by
  intro n
  induction n with
  | zero => intro k l _; rfl
  | succ n ih =>
    intro k l h
    cases l with
    | nil => simp at h
    | cons x r =>
      simp only [placeM]
      have := ih (k * 256 + x.toNat) r (by simpa using h)
      rw [Prod.ext_iff] at this
      simp only at this
      rw [this.1, this.2]

end Go.Proofs.YtieejbkbdfccdaaDoor
