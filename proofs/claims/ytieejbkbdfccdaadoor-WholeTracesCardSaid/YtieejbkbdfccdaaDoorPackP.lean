/- What is written is read, and what is read is what would be written: plain laws of numbers and texts as bytes. -/
import Derived.Test.YtieejbkbdfccdaaDoorPackRd
import Derived.Test.YtieejbkbdfccdaaDoorPackW
set_option linter.unusedVariables false
set_option linter.unusedSimpArgs false
namespace Go.Proofs.YtieejbkbdfccdaaDoor
open Go

theorem readGo_fail (most : Int) : ∀ (K l : List UInt8) (k : Nat) (acc : List PartP), (readGo most K l k acc).2.1 ≠ 0 → (readGo most K l k acc).1 = [] := by
  intro K
  induction K with
  | nil =>
    intro l k acc h
    unfold readGo at h ⊢
    split
    · rfl
    · rename_i hl; rw [if_neg hl] at h; exact absurd rfl h
  | cons c cs ih =>
    intro l k acc h
    unfold readGo at h ⊢
    split
    · rfl
    · rename_i hl; rw [if_neg hl] at h; exact ih _ _ _ h
theorem readGo_len (most : Int) : ∀ (K l : List UInt8) (k : Nat) (acc : List PartP), (readGo most K l k acc).1.length ≤ acc.length + K.length := by
  intro K
  induction K with
  | nil =>
    intro l k acc
    unfold readGo
    split <;> simp
  | cons c cs ih =>
    intro l k acc
    unfold readGo
    split
    · simp
    · have := ih (l.drop (partM c most l).2.1) (k + (partM c most l).2.1) (acc ++ [(partM c most l).1])
      simp at this ⊢
      omega
theorem readM_len (B K : List UInt8) (most : Int) : (readM B K most).1.length ≤ K.length := by
  have := readGo_len most K B 0 []
  simpa [readM] using this

theorem pow9 : (128 : Nat) ^ 9 = 9223372036854775808 := by decide
theorem pow_le9 {i : Nat} (h : i ≤ 9) : 128 ^ i ≤ 9223372036854775808 := by rw [← pow9]; exact Nat.pow_le_pow_right (by omega) h
theorem ofNat_lt {n : Nat} (h : n < 256) : (UInt8.ofNat n).toNat = n := by rw [UInt8.toNat_ofNat']; omega
theorem digits_ne (n : Nat) : digits n ≠ [] := by
  by_cases h : n < 128
  · rw [digits_lt h]; simp
  · rw [digits_ge h]; simp

theorem num_digits : ∀ (n i acc : Nat) (r : List UInt8), i ≤ 9 → acc + n * 128 ^ i < 18446744073709551616 → (n ≠ 0 ∨ i = 0) →
    numGo acc i (digits n ++ r) = (acc + n * 128 ^ i, i + (digits n).length, 0) := by
  intro n
  induction n using Nat.strongRecOn with
  | _ n ih =>
    intro i acc r hi hb hz
    by_cases h : n < 128
    · rw [digits_lt h]
      have hx : (UInt8.ofNat n).toNat = n := ofNat_lt (by omega)
      have hbad : ¬ (i = 9 ∧ 1 < (UInt8.ofNat n).toNat) := by
        rintro ⟨rfl, h1⟩
        rw [hx] at h1
        rw [pow9] at hb
        omega
      have hz2 : ¬ ((UInt8.ofNat n).toNat = 0 ∧ 0 < i) := by rw [hx]; omega
      simp only [List.singleton_append, numGo]
      rw [if_neg hbad, if_pos (by omega), if_neg hz2, hx]
      simp
    · rw [digits_ge h]
      have hi8 : i < 9 := by
        rcases Nat.lt_or_ge i 9 with h9 | h9
        · exact h9
        · have : i = 9 := by omega
          subst this
          rw [pow9] at hb
          omega
      have hx : (UInt8.ofNat (n % 128 + 128)).toNat = n % 128 + 128 := ofNat_lt (by omega)
      have hq : n / 128 ≠ 0 := by omega
      have e1 : 128 ^ (i + 1) = 128 * 128 ^ i := by rw [Nat.pow_succ, Nat.mul_comm]
      have e2 : acc + n % 128 * 128 ^ i + n / 128 * 128 ^ (i + 1) = acc + n * 128 ^ i := by
        rw [e1, ← Nat.mul_assoc, Nat.add_assoc, ← Nat.add_mul]
        congr 2
        omega
      simp only [List.cons_append, numGo]
      rw [if_neg (by omega), if_neg (by omega), hx]
      have hm : (n % 128 + 128) % 128 = n % 128 := by omega
      rw [hm, ih (n / 128) (by omega) (i + 1) _ r (by omega) (by rw [e2]; exact hb) (.inl hq), e2]
      simp only [List.length_cons]
      congr 2
      omega
theorem num_digits0 {n : Nat} (r : List UInt8) (h : n < 18446744073709551616) : num (digits n ++ r) = (n, (digits n).length, 0) := by
  unfold num
  rw [num_digits n 0 0 r (by omega) (by simpa using h) (.inr rfl)]
  simp
/-- Digits that are cut off are too short. -/
theorem num_cut : ∀ (n i acc c : Nat), i ≤ 9 → acc + n * 128 ^ i < 18446744073709551616 → c < (digits n).length → numGo acc i ((digits n).take c) = (0, i + c, 2) := by
  intro n
  induction n using Nat.strongRecOn with
  | _ n ih =>
    intro i acc c hi hb hc
    by_cases h : n < 128
    · rw [digits_lt h] at hc ⊢
      have : c = 0 := by simp at hc; exact hc
      subst this
      simp [numGo]
    · rw [digits_ge h] at hc ⊢
      have hi8 : i < 9 := by
        rcases Nat.lt_or_ge i 9 with h9 | h9
        · exact h9
        · have : i = 9 := by omega
          subst this
          rw [pow9] at hb
          omega
      have hx : (UInt8.ofNat (n % 128 + 128)).toNat = n % 128 + 128 := ofNat_lt (by omega)
      have e1 : 128 ^ (i + 1) = 128 * 128 ^ i := by rw [Nat.pow_succ, Nat.mul_comm]
      have e2 : acc + n % 128 * 128 ^ i + n / 128 * 128 ^ (i + 1) = acc + n * 128 ^ i := by
        rw [e1, ← Nat.mul_assoc, Nat.add_assoc, ← Nat.add_mul]
        congr 2
        omega
      cases c with
      | zero => simp [numGo]
      | succ c =>
        simp only [List.take_succ_cons, numGo]
        rw [if_neg (by omega), if_neg (by omega), hx]
        have hm : (n % 128 + 128) % 128 = n % 128 := by omega
        rw [hm, ih (n / 128) (by omega) (i + 1) _ c (by omega) (by rw [e2]; exact hb) (by simpa using hc)]
        congr 2
        omega
/-- What a number was read of are its digits. -/
theorem digits_num : ∀ (l : List UInt8) (acc i : Nat), (numGo acc i l).2.2 = 0 → ∃ m z, numGo acc i l = (acc + m * 128 ^ i, i + z, 0) ∧ z ≤ l.length ∧ digits m = l.take z ∧ (m ≠ 0 ∨ i = 0) := by
  intro l
  induction l with
  | nil => intro acc i h; simp [numGo] at h
  | cons x r ih =>
    intro acc i h
    have hx := x.toNat_lt
    rw [numGo] at h
    rw [numGo]
    by_cases hbad : i = 9 ∧ 1 < x.toNat
    · rw [if_pos hbad] at h; simp at h
    · rw [if_neg hbad] at h ⊢
      by_cases hx128 : x.toNat < 128
      · rw [if_pos hx128] at h ⊢
        by_cases hz : x.toNat = 0 ∧ 0 < i
        · rw [if_pos hz] at h; simp at h
        · rw [if_neg hz]
          refine ⟨x.toNat, 1, rfl, by simp, ?_, by omega⟩
          rw [digits_lt hx128]
          simp
      · rw [if_neg hx128] at h ⊢
        obtain ⟨m, z, h1, h2, h3, h4⟩ := ih _ _ h
        have hm0 : m ≠ 0 := by omega
        have e1 : 128 ^ (i + 1) = 128 * 128 ^ i := by rw [Nat.pow_succ, Nat.mul_comm]
        refine ⟨x.toNat % 128 + 128 * m, z + 1, ?_, by simp; omega, ?_, .inl (by omega)⟩
        · have ea : acc + x.toNat % 128 * 128 ^ i + m * (128 * 128 ^ i) = acc + (x.toNat % 128 + 128 * m) * 128 ^ i := by
            rw [Nat.add_mul, Nat.mul_comm 128 m, Nat.mul_assoc, Nat.add_assoc]
          have eb : i + 1 + z = i + (z + 1) := by omega
          rw [h1, e1, ea, eb]
        · rw [digits_ge (by omega)]
          have q1 : (x.toNat % 128 + 128 * m) % 128 = x.toNat % 128 := by omega
          have q2 : (x.toNat % 128 + 128 * m) / 128 = m := by omega
          have q3 : x.toNat % 128 + 128 = x.toNat := by omega
          rw [q1, q2, q3, h3, List.take_succ_cons]
          congr 1
          exact UInt8.toNat_inj.1 (by rw [ofNat_lt hx])
theorem digits_num0 {l : List UInt8} (h : (num l).2.2 = 0) : digits (num l).1 = l.take (num l).2.1 := by
  unfold num at h ⊢
  obtain ⟨m, z, h1, h2, h3, h4⟩ := digits_num l 0 0 h
  rw [h1]
  simpa using h3

/-! ### Places -/
theorem H63x2 : 2 * H63 = 18446744073709551616 := by decide
theorem placeM_placeB {k : Nat} (r : List UInt8) (h : k < 18446744073709551616) : placeM 8 0 (placeB k ++ r) = (k, 8, 0) := by
  simp only [placeB, List.cons_append, List.nil_append, placeM, UInt8.toNat_ofNat']
  congr 1
  omega
theorem placeB_placeM {l : List UInt8} (h : 8 ≤ l.length) : placeB (placeM 8 0 l).1 = l.take 8 := by
  match l, h with
  | x0 :: x1 :: x2 :: x3 :: x4 :: x5 :: x6 :: x7 :: r, _ =>
    have h0 := x0.toNat_lt
    have h1 := x1.toNat_lt
    have h2 := x2.toNat_lt
    have h3 := x3.toNat_lt
    have h4 := x4.toNat_lt
    have h5 := x5.toNat_lt
    have h6 := x6.toNat_lt
    have h7 := x7.toNat_lt
    simp only [placeM, placeB, List.take_succ_cons, List.take_zero, List.cons.injEq, and_true]
    refine ⟨?_, ?_, ?_, ?_, ?_, ?_, ?_, ?_⟩ <;> (apply UInt8.toNat_inj.1; rw [UInt8.toNat_ofNat']; omega)
theorem floatM_enc {a : Nat} (r : List UInt8) (h : a < 2 * H63) : floatM (placeB (key a) ++ r) = (canon a, 8, 0) := by
  have hk := key_lt h
  rw [H63x2] at hk
  unfold floatM
  rw [placeM_placeB r hk]
  simp [key_back h, key_canon]

/-! ### Parts -/
theorem enc_part {p : PartP} {most : Int} (r : List UInt8) (hk : p.kind = 117 ∨ p.kind = 105 ∨ p.kind = 102 ∨ p.kind = 115 ∨ p.kind = 98) (hok : okP p) (hs : (p.s.length : Int) ≤ most) (hs2 : p.s.length < 18446744073709551616) :
    ∃ q, partM p.kind most (encP p ++ r) = (q, (encP p).length, 0) ∧ plain q = plain p := by
  obtain ⟨hu, hi, hf⟩ := hok
  rw [H63x2] at hu
  rcases hk with h | h | h | h | h
  · have he : encP p = digits p.u := by unfold encP; rw [if_pos h]
    rw [he]
    refine ⟨{ zP p.kind with u := p.u }, ?_, ?_⟩
    · unfold partM; rw [if_pos h, num_digits0 r hu]
    · simp [plain, zP, h]
  · have h1 : ¬ p.kind = 117 := by rw [h]; decide
    have he : encP p = digits (zig p.i) := by unfold encP; rw [if_neg h1, if_pos h]
    rw [he]
    have hz := zig_lt hi.1 hi.2
    rw [H63x2] at hz
    refine ⟨{ zP p.kind with i := p.i }, ?_, ?_⟩
    · unfold partM; rw [if_neg h1, if_pos h, num_digits0 r hz]; simp [zag_zig]
    · simp [plain, zP, h]
  · have h1 : ¬ p.kind = 117 := by rw [h]; decide
    have h2 : ¬ p.kind = 105 := by rw [h]; decide
    have he : encP p = placeB (key p.f) := by unfold encP; rw [if_neg h1, if_neg h2, if_pos h]
    rw [he]
    refine ⟨{ zP p.kind with f := canon p.f }, ?_, ?_⟩
    · unfold partM; rw [if_neg h1, if_neg h2, if_pos h, floatM_enc r hf]; rfl
    · simp [plain, zP, h, key_canon]
  · have h1 : ¬ p.kind = 117 := by rw [h]; decide
    have h2 : ¬ p.kind = 105 := by rw [h]; decide
    have h3 : ¬ p.kind = 102 := by rw [h]; decide
    have he : encP p = digits p.s.length ++ p.s := by unfold encP; rw [if_neg h1, if_neg h2, if_neg h3, if_pos h]
    rw [he]
    have hstr : strM most (digits p.s.length ++ p.s ++ r) = (p.s, (digits p.s.length).length + p.s.length, 0) := by
      unfold strM
      rw [List.append_assoc, num_digits0 (p.s ++ r) hs2]
      simp only [ne_eq, not_true_eq_false, if_false]
      rw [if_neg (by omega), if_neg (by simp)]
      simp
    refine ⟨{ zP p.kind with s := p.s }, ?_, ?_⟩
    · unfold partM; rw [if_neg h1, if_neg h2, if_neg h3, if_pos h, hstr, List.length_append]
    · simp [plain, zP, h]
  · have h1 : ¬ p.kind = 117 := by rw [h]; decide
    have h2 : ¬ p.kind = 105 := by rw [h]; decide
    have h3 : ¬ p.kind = 102 := by rw [h]; decide
    have h4 : ¬ p.kind = 115 := by rw [h]; decide
    have he : encP p = [if p.b then 1 else 0] := by unfold encP; rw [if_neg h1, if_neg h2, if_neg h3, if_neg h4, if_pos h]
    rw [he]
    refine ⟨{ zP p.kind with b := p.b }, ?_, ?_⟩
    · unfold partM; rw [if_neg h1, if_neg h2, if_neg h3, if_neg h4, if_pos h]
      cases p.b <;> simp [flagM]
    · simp [plain, zP, h]
theorem part_enc {kind : UInt8} {most : Int} {l : List UInt8} (h : (partM kind most l).2.2 = 0) : encP (partM kind most l).1 = l.take (partM kind most l).2.1 := by
  have hk : ∀ x : PartP, True := fun _ => trivial
  unfold partM at h ⊢
  by_cases h1 : kind = 117
  · rw [if_pos h1] at h ⊢
    have := digits_num0 (l := l) h
    unfold encP; rw [if_pos (by exact h1)]; exact this
  · rw [if_neg h1] at h ⊢
    by_cases h2 : kind = 105
    · rw [if_pos h2] at h ⊢
      have := digits_num0 (l := l) h
      unfold encP; rw [if_neg (by exact h1), if_pos (by exact h2)]
      show digits (zig (zag (num l).1)) = _
      rw [zig_zag]; exact this
    · rw [if_neg h2] at h ⊢
      by_cases h3 : kind = 102
      · rw [if_pos h3] at h ⊢
        unfold encP; rw [if_neg (by exact h1), if_neg (by exact h2), if_pos (by exact h3)]
        show placeB (key (floatM l).1) = l.take (floatM l).2.1
        have h : (floatM l).2.2 = 0 := h
        unfold floatM at h ⊢
        by_cases h8 : l.length < 8
        · rw [placeM_short 8 0 l h8] at h; simp at h
        · have hp := placeM_long 8 0 l (by omega)
          have hpb := placeB_placeM (l := l) (by omega)
          rw [Prod.ext_iff] at hp
          simp only at hp
          simp only [hp.2, ne_eq, not_true_eq_false, if_false] at h ⊢
          by_cases hkk : key (backB (placeM 8 0 l).1) = (placeM 8 0 l).1
          · rw [if_pos hkk]
            show placeB (key (backB (placeM 8 0 l).1)) = l.take (placeM 8 0 l).2.1
            rw [hkk, hpb, hp.1]
          · rw [if_neg hkk] at h; simp at h
      · rw [if_neg h3] at h ⊢
        by_cases h4 : kind = 115
        · rw [if_pos h4] at h ⊢
          unfold encP; rw [if_neg (by exact h1), if_neg (by exact h2), if_neg (by exact h3), if_pos (by exact h4)]
          show digits (strM most l).1.length ++ (strM most l).1 = l.take (strM most l).2.1
          have h : (strM most l).2.2 = 0 := h
          have hn := num_le l
          unfold strM at h ⊢
          by_cases hc : (num l).2.2 = 0
          · have hd := digits_num0 hc
            simp only [hc, ne_eq, not_true_eq_false, if_false] at h ⊢
            by_cases hlong : (max most 0).toNat < (num l).1
            · rw [if_pos hlong] at h; simp at h
            · rw [if_neg hlong] at h ⊢
              by_cases hshort : l.length - (num l).2.1 < (num l).1
              · rw [if_pos hshort] at h; simp at h
              · rw [if_neg hshort]
                simp only
                have hl : ((l.drop (num l).2.1).take (num l).1).length = (num l).1 := by simp; omega
                rw [hl, hd, List.take_add]
          · simp only [ne_eq, hc, not_false_eq_true, if_true] at h
        · rw [if_neg h4] at h ⊢
          by_cases h5 : kind = 98
          · rw [if_pos h5] at h ⊢
            unfold encP; rw [if_neg (by exact h1), if_neg (by exact h2), if_neg (by exact h3), if_neg (by exact h4), if_pos (by exact h5)]
            show [if (flagM l).1 then (1 : UInt8) else 0] = l.take (flagM l).2.1
            have h : (flagM l).2.2 = 0 := h
            cases l with
            | nil => simp [flagM] at h
            | cons x r =>
              by_cases hx : 1 < x.toNat
              · simp [flagM, hx] at h
              · have hfm : flagM (x :: r) = (decide (x = 1), 1, 0) := by simp [flagM, hx]
                have : x = 0 ∨ x = 1 := by
                  rcases Nat.lt_or_ge x.toNat 1 with h | h
                  · left; exact UInt8.toNat_inj.1 (by show x.toNat = 0; omega)
                  · right; exact UInt8.toNat_inj.1 (by show x.toNat = 1; omega)
                rw [hfm]
                rcases this with rfl | rfl <;> simp
          · rw [if_neg h5] at h; simp at h

/-! ### Rows of parts -/
def OkL (most : Int) (L : List PartP) : Prop := ∀ p ∈ L, (p.kind = 117 ∨ p.kind = 105 ∨ p.kind = 102 ∨ p.kind = 115 ∨ p.kind = 98) ∧ okP p ∧ (p.s.length : Int) ≤ most ∧ p.s.length < 18446744073709551616
/-- What was written is read, up to what stands behind it. -/
theorem read_enc {most : Int} : ∀ (L : List PartP) (k : Nat) (acc : List PartP) (more : List UInt8), OkL most L →
    ∃ M, M.map plain = L.map plain ∧ readGo most (L.map (·.kind)) (encAll L ++ more) k acc = if 0 < more.length then ([], 3, k + (encAll L).length) else (acc ++ M, 0, 0) := by
  intro L
  induction L with
  | nil =>
    intro k acc more _
    refine ⟨[], rfl, ?_⟩
    simp [encAll, readGo]
  | cons p L ih =>
    intro k acc more h
    obtain ⟨h1, h2, h3, h4⟩ := h p List.mem_cons_self
    obtain ⟨q, hq, hpq⟩ := enc_part (most := most) (encAll L ++ more) h1 h2 h3 h4
    obtain ⟨M, hM, hr⟩ := ih (k + (encP p).length) (acc ++ [q]) more (fun p hp => h p (List.mem_cons_of_mem _ hp))
    refine ⟨q :: M, by simp [hM, hpq], ?_⟩
    rw [List.map_cons, encAll_cons, List.append_assoc, readGo, hq]
    simp only [ne_eq, not_true_eq_false, if_false, List.drop_left]
    rw [hr, List.length_append, Nat.add_assoc, List.append_assoc]
    rfl
/-- What was read, written again, is what it was read of. -/
theorem enc_read {most : Int} : ∀ (K l : List UInt8) (k : Nat) (acc : List PartP), (readGo most K l k acc).2.1 = 0 → ∃ M, (readGo most K l k acc).1 = acc ++ M ∧ encAll M = l := by
  intro K
  induction K with
  | nil =>
    intro l k acc h
    unfold readGo at h ⊢
    by_cases hl : 0 < l.length
    · rw [if_pos hl] at h; simp at h
    · rw [if_neg hl]
      have : l = [] := List.eq_nil_of_length_eq_zero (by omega)
      subst this
      exact ⟨[], by simp, rfl⟩
  | cons c cs ih =>
    intro l k acc h
    unfold readGo at h ⊢
    by_cases hc : (partM c most l).2.2 = 0
    · rw [if_neg (by simpa using hc)] at h ⊢
      obtain ⟨M, hM, he⟩ := ih _ _ _ h
      refine ⟨(partM c most l).1 :: M, by rw [hM]; simp, ?_⟩
      rw [encAll_cons, he, part_enc hc, List.take_append_drop]
    · rw [if_pos hc] at h
      exact absurd h hc
/-- A part that is cut off is too short. -/
theorem cut_part {p : PartP} {most : Int} {c : Nat} (hk : p.kind = 117 ∨ p.kind = 105 ∨ p.kind = 102 ∨ p.kind = 115 ∨ p.kind = 98) (hok : okP p) (hs : (p.s.length : Int) ≤ most) (hs2 : p.s.length < 18446744073709551616)
    (hc : c < (encP p).length) : ∃ q z, partM p.kind most ((encP p).take c) = (q, z, 2) ∧ z ≤ c := by
  obtain ⟨hu, hi, hf⟩ := hok
  rw [H63x2] at hu
  have hcut : ∀ n, n < 18446744073709551616 → c < (digits n).length → num ((digits n).take c) = (0, c, 2) := fun n hn h => by
    have := num_cut n 0 0 c (by omega) (by simpa using hn) h
    simpa [num] using this
  rcases hk with h | h | h | h | h
  · have he : encP p = digits p.u := by unfold encP; rw [if_pos h]
    rw [he] at hc ⊢
    unfold partM
    rw [if_pos h, hcut _ hu hc]
    exact ⟨_, c, rfl, Nat.le_refl _⟩
  · have h1 : ¬ p.kind = 117 := by rw [h]; decide
    have he : encP p = digits (zig p.i) := by unfold encP; rw [if_neg h1, if_pos h]
    rw [he] at hc ⊢
    have hz := zig_lt hi.1 hi.2
    rw [H63x2] at hz
    unfold partM
    rw [if_neg h1, if_pos h, hcut _ hz hc]
    exact ⟨_, c, rfl, Nat.le_refl _⟩
  · have h1 : ¬ p.kind = 117 := by rw [h]; decide
    have h2 : ¬ p.kind = 105 := by rw [h]; decide
    have he : encP p = placeB (key p.f) := by unfold encP; rw [if_neg h1, if_neg h2, if_pos h]
    rw [he] at hc ⊢
    have hl8 : (placeB (key p.f)).length = 8 := rfl
    have hlt : ((placeB (key p.f)).take c).length < 8 := by simp; omega
    have hfl : floatM ((placeB (key p.f)).take c) = (0, ((placeB (key p.f)).take c).length, 2) := by
      unfold floatM; rw [placeM_short 8 0 _ hlt]; simp
    unfold partM
    rw [if_neg h1, if_neg h2, if_pos h, hfl]
    exact ⟨_, _, rfl, by simp; omega⟩
  · have h1 : ¬ p.kind = 117 := by rw [h]; decide
    have h2 : ¬ p.kind = 105 := by rw [h]; decide
    have h3 : ¬ p.kind = 102 := by rw [h]; decide
    have he : encP p = digits p.s.length ++ p.s := by unfold encP; rw [if_neg h1, if_neg h2, if_neg h3, if_pos h]
    rw [he] at hc ⊢
    rw [List.length_append] at hc
    unfold partM
    rw [if_neg h1, if_neg h2, if_neg h3, if_pos h]
    by_cases hcd : c < (digits p.s.length).length
    · have ht : (digits p.s.length ++ p.s).take c = (digits p.s.length).take c := List.take_append_of_le_length (by omega)
      have hst : strM most ((digits p.s.length).take c) = ([], c, 2) := by unfold strM; rw [hcut _ hs2 hcd]; simp
      rw [ht, hst]
      exact ⟨_, c, rfl, Nat.le_refl _⟩
    · have ht : (digits p.s.length ++ p.s).take c = digits p.s.length ++ p.s.take (c - (digits p.s.length).length) := by
        rw [List.take_append, List.take_of_length_le (by omega)]
      have hst : strM most (digits p.s.length ++ p.s.take (c - (digits p.s.length).length)) = ([], (digits p.s.length).length, 2) := by
        unfold strM
        rw [num_digits0 _ hs2]
        simp only [ne_eq, not_true_eq_false, if_false]
        rw [if_neg (by omega), if_pos (by simp; omega)]
      rw [ht, hst]
      exact ⟨_, (digits p.s.length).length, rfl, by omega⟩
  · have h1 : ¬ p.kind = 117 := by rw [h]; decide
    have h2 : ¬ p.kind = 105 := by rw [h]; decide
    have h3 : ¬ p.kind = 102 := by rw [h]; decide
    have h4 : ¬ p.kind = 115 := by rw [h]; decide
    have he : encP p = [if p.b then 1 else 0] := by unfold encP; rw [if_neg h1, if_neg h2, if_neg h3, if_neg h4, if_pos h]
    rw [he] at hc ⊢
    have h0 : c = 0 := by simp at hc; exact hc
    subst h0
    unfold partM
    rw [if_neg h1, if_neg h2, if_neg h3, if_neg h4, if_pos h]
    exact ⟨_, 0, rfl, Nat.le_refl _⟩
theorem cut_enc {most : Int} : ∀ (L : List PartP) (k : Nat) (acc : List PartP) (c : Nat), OkL most L → c < (encAll L).length →
    ∃ z, readGo most (L.map (·.kind)) ((encAll L).take c) k acc = ([], 2, z) ∧ z ≤ k + c := by
  intro L
  induction L with
  | nil => intro k acc c _ h; simp [encAll] at h
  | cons p L ih =>
    intro k acc c h hc
    obtain ⟨h1, h2, h3, h4⟩ := h p List.mem_cons_self
    rw [encAll_cons, List.length_append] at hc
    rw [List.map_cons, encAll_cons, readGo]
    by_cases hcp : c < (encP p).length
    · have ht : (encP p ++ encAll L).take c = (encP p).take c := List.take_append_of_le_length (by omega)
      obtain ⟨q, z, hq, hz⟩ := cut_part (most := most) h1 h2 h3 h4 hcp
      rw [ht, hq]
      exact ⟨k + z, by simp, by omega⟩
    · have ht : (encP p ++ encAll L).take c = encP p ++ (encAll L).take (c - (encP p).length) := by
        rw [List.take_append, List.take_of_length_le (by omega)]
      obtain ⟨q, hq, _⟩ := enc_part (most := most) ((encAll L).take (c - (encP p).length)) h1 h2 h3 h4
      rw [ht, hq]
      simp only [ne_eq, not_true_eq_false, if_false, List.drop_left]
      obtain ⟨z, hz, hzk⟩ := ih (k + (encP p).length) (acc ++ [q]) (c - (encP p).length) (fun p hp => h p (List.mem_cons_of_mem _ hp)) (by omega)
      exact ⟨z, hz, by omega⟩
theorem encP_len {p : PartP} (hok : okP p) (hs : p.s.length < 18446744073709551616) : (encP p).length ≤ p.s.length + 10 := by
  obtain ⟨hu, hi, hf⟩ := hok
  have h10 : ∀ n, n < 2 * H63 → (digits n).length ≤ 10 := fun n hn => digits_len 9 n (by
    have e : (128 : Nat) ^ (9 + 1) = 1180591620717411303424 := by decide
    rw [e]; unfold H63 at hn; omega)
  unfold encP
  split
  · have := h10 _ hu; omega
  · split
    · have := h10 _ (zig_lt hi.1 hi.2); omega
    · split
      · have : (placeB (key p.f)).length = 8 := rfl
        omega
      · split
        · rw [List.length_append]
          have := h10 _ (by rw [H63x2]; exact hs)
          omega
        · split
          · simp
          · simp
end Go.Proofs.YtieejbkbdfccdaaDoor
