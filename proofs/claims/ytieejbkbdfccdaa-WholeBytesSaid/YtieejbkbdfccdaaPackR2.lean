/- What a Reader's further calls do: texts, parts of any kind. -/
import Derived.Test.YtieejbkbdfccdaaSim
import Derived.Test.YtieejbkbdfccdaaPackR
import Derived.Test.YtieejbkbdfccdaaPackC
set_option linter.unusedVariables false
set_option linter.unusedSimpArgs false
namespace Go.Proofs.Ytieejbkbdfccdaa
open Go

theorem rd_sub {w : World} {ab ao N ac : Nat} {B : List UInt8} (h : RdV w (sl ab ao N ac) N (bs B)) (hN : B.length = N) {lo hi : Nat} (h1 : lo ≤ hi) (h2 : hi ≤ N) :
    RdV w (.slice (some ⟨ab, if ac = lo then ao else ao + lo * 1, none⟩) (hi - lo) (ac - lo)) ((B.drop lo).take (hi - lo)).length (bs ((B.drop lo).take (hi - lo))) := by
  have hl : ((B.drop lo).take (hi - lo)).length = hi - lo := by simp; omega
  rw [hl]
  rcases h with ⟨a, c, hv, h0, _⟩ | ⟨b, o, c, hv, hc1, hc2, hlt, hin, hcs⟩
  · have : hi - lo = 0 := by omega
    rw [this]
    exact .inl ⟨_, _, rfl, rfl, by simp [bs]⟩
  · simp only [Value.slice.injEq, Option.some.injEq, Addr.mk.injEq] at hv
    obtain ⟨⟨rfl, rfl, _⟩, _, rfl⟩ := hv
    by_cases h0 : hi - lo = 0
    · rw [h0]
      exact .inl ⟨_, _, rfl, rfl, by simp [bs]⟩
    · have hne : ¬ ac = lo := by omega
      rw [if_neg hne, Nat.mul_one]
      rw [bs_length] at hin hcs
      refine .inr ⟨ab, ao + lo, ac - lo, rfl, by omega, by omega, hlt, by rw [bs_length, hl]; omega, ?_⟩
      rw [bs_length, hl, ← bs_take, ← bs_drop, ← hcs, List.drop_take, List.take_take, List.drop_drop]
      congr 1
      omega

def strM (most : Int) (l : List UInt8) : List UInt8 × Nat × Nat :=
  let q := num l
  if q.2.2 ≠ 0 then ([], q.2.1, q.2.2) else if (max most 0).toNat < q.1 then ([], q.2.1, 3) else if l.length - q.2.1 < q.1 then ([], q.2.1, 2) else ((l.drop q.2.1).take q.1, q.2.1 + q.1, 0)

theorem num_le (l : List UInt8) : (num l).2.1 ≤ l.length := by
  have key : ∀ (l : List UInt8) (n i : Nat), i ≤ 9 → (numGo n i l).2.1 ≤ i + l.length := by
    intro l
    induction l with
    | nil => intro n i hi; simp [numGo]
    | cons x r ih =>
      intro n i hi
      rw [numGo, List.length_cons]
      by_cases hbad : i = 9 ∧ 1 < x.toNat
      · rw [if_pos hbad]; simp only; omega
      · rw [if_neg hbad]
        by_cases hx : x.toNat < 128
        · rw [if_pos hx]
          split <;> simp only <;> omega
        · rw [if_neg hx]
          have := x.toNat_lt
          have hi8 : i < 9 := by
            rcases Nat.lt_or_ge i 9 with h | h
            · exact h
            · exact absurd ⟨by omega, by omega⟩ hbad
          have := ih (n + x.toNat % 128 * 128 ^ i) (i + 1) (by omega)
          omega
  have := key l 0 0 (by omega)
  unfold num
  omega
theorem num_pos {l : List UInt8} (h : (num l).2.2 = 0) : 0 < (num l).2.1 := by
  cases l with
  | nil => simp [num, numGo] at h
  | cons x r =>
    have key : ∀ (l : List UInt8) (n i : Nat), (numGo n i l).2.2 = 0 → i ≤ (numGo n i l).2.1 := by
      intro l
      induction l with
      | nil => intro n i _; simp [numGo]
      | cons x r ih =>
        intro n i h
        rw [numGo] at h ⊢
        by_cases hbad : i = 9 ∧ 1 < x.toNat
        · rw [if_pos hbad]; simp only; omega
        · rw [if_neg hbad] at h ⊢
          by_cases hx : x.toNat < 128
          · rw [if_pos hx]
            split <;> simp only <;> omega
          · rw [if_neg hx] at h ⊢
            have := ih _ _ h
            omega
    unfold num at h ⊢
    rw [numGo, if_neg (by omega)] at h ⊢
    by_cases hx : x.toNat < 128
    · rw [if_pos hx]
      split <;> simp only <;> omega
    · rw [if_neg hx] at h ⊢
      have := key _ _ _ h
      omega

theorem rS_spec {w : World} {b : Nat} {v : Value} {B : List UInt8} {k : Nat} {most : Int} (h : IsRd w b v B k) (hm : most < 9223372036854775808) :
    Rd 44 #[pt b 0, i64 most] w b v B k strB (strM most (B.drop k)) := by
  refine F44ok ?_
  unfold F44
  refine (rU_spec h).call ?_ ?_
  · rintro _ w1 ⟨h1, rfl, hr, hf⟩
    have hn := num_lt h1
    have hz := num_le (B.drop k)
    have hpos := num_pos h1
    unfold strM
    generalize num (B.drop k) = r at *
    obtain ⟨n, z, c⟩ := r
    simp only at h1 hr hn hz hpos ⊢
    subst h1
    simp only [ne_eq, not_true_eq_false, if_false]
    have hlen := h.rd.len
    have hkz := hr.le
    have hB : (B.drop k).length = B.length - k := by simp
    rw [hB] at hz ⊢
    obtain ⟨q, hq⟩ : ∃ q : Nat, max most 0 = (q : Int) := ⟨(max most 0).toNat, by omega⟩
    have hqt : (max most 0).toNat = q := by omega
    have hwq : IntKind.u64.wrap (q : Int) = (q : Int) := wrapu (by unfold H63; omega)
    rw [hqt]
    by_cases hlong : q < n
    · rw [if_pos hlong]
      try simp (maxDischargeDepth := 8) [↓sC, sB, sM, hq, hwq, hlong]
      refine (fail_spec hr).call (fun _ _ hF => hF.elim) ?_
      rintro ch w2 ⟨rfl, rfl⟩
      try simp (maxDischargeDepth := 8) [↓sC, sB, sM]
      exact hf
    · rw [if_neg hlong]
      try simp (maxDischargeDepth := 8) [↓sC, sB, sM, hq, hwq, hlong]
      refine (left_spec hr).call ?_
      rintro _ w2 ⟨rfl, hf2⟩
      have hr2 := hr.fr0 hf2
      obtain ⟨d, hd⟩ : ∃ d, d = B.length - (k + z) := ⟨_, rfl⟩
      have hdz : B.length - k - z = d := by omega
      have hwd : IntKind.u64.wrap (d : Int) = (d : Int) := wrapu (by unfold H63; omega)
      rw [hdz, ← hd]
      by_cases hshort : d < n
      · rw [if_pos hshort]
        try simp (maxDischargeDepth := 8) [↓sC, sB, sM, hwd, hshort]
        refine (fail_spec hr2).call (fun _ _ hF => hF.elim) ?_
        rintro ch w3 ⟨rfl, rfl⟩
        try simp (maxDischargeDepth := 8) [↓sC, sB, sM]
        exact hf.trans0 hf2
      · rw [if_neg hshort]
        have hwn : IntKind.i64.wrap (n : Int) = (n : Int) := wrap64 (by omega) (by omega)
        obtain ⟨s, hs⟩ : ∃ s : Int, s = ((k + z : Nat) : Int) := ⟨_, rfl⟩
        obtain ⟨t, ht⟩ : ∃ t : Int, t = ((k + z + n : Nat) : Int) := ⟨_, rfl⟩
        have hws : IntKind.i64.wrap (s + n) = t := wrap64 (by omega) (by omega) |>.trans (by omega)
        have hwt : IntKind.i64.wrap (t - n) = s := wrap64 (by omega) (by omega) |>.trans (by omega)
        have hc2 := hr2.cell
        rw [← hs] at hc2
        obtain ⟨W, hW⟩ : ∃ W, W = wr w2 b [v, i64 t] := ⟨_, rfl⟩
        have hrW : IsRd W b v B (k + z + n) := by rw [hW, ht]; exact hr2.at_ (by omega)
        have hcW := hrW.cell
        rw [← ht] at hcW
        rcases id hr2.rd with ⟨_, _, _, h0, _⟩ | ⟨ab, ao, ac, hv, hac, _⟩
        · omega
        · have hdW : RdV (drew W) (sl ab ao B.length ac) B.length (bs B) := by rw [← hv]; exact (hrW.rd).fr0 (Fr.refl [] W).drew
          have hsub := rd_sub hdW rfl (lo := k + z) (hi := k + z + n) (by omega) (by omega)
          have e1 : k + z + n - (k + z) = n := by omega
          rw [e1] at hsub
          obtain ⟨S, hS⟩ : ∃ S : Value, S = .slice (some ⟨ab, if ac = k + z then ao else ao + (k + z) * 1, none⟩) n (ac - (k + z)) := ⟨_, rfl⟩
          rw [← hS] at hsub
          have hsl : ∀ w, pSlice P 23 v (some (i64 s)) (some (i64 t)) none w = some (S, w) := fun w => by
            rw [hv, slB23 (by omega) (by omega) (by omega) hac, hS]
            have e2 : s.toNat = k + z := by omega
            have e3 : t.toNat = k + z + n := by omega
            rw [e2, e3, e1]
          have hcs : pConv P 23 9 S (drew W) = some (strB ((B.drop (k + z)).take n), drew W) := conv_str sliceE23 intK5 und9 hsub
          have hv1 : v.oneCell' = true := by rw [hv]; rfl
          try simp (maxDischargeDepth := 8) [↓sC, sB, sM, hwd, hshort, hwn, hws, hwt, hc2, hr2.fz, ← hW, hcW, hsl, hcs]
          refine ⟨?_, ?_⟩
          · have := hrW.fr0 (Fr.refl [] W).drew
            rwa [Nat.add_assoc] at this
          · rw [hW]; exact ((hf.trans0 hf2).wr (.inl (by simp)) _).drew
  · rintro ch w1 ⟨h1, rfl, hf⟩
    have : strM most (B.drop k) = ([], (num (B.drop k)).2.1, (num (B.drop k)).2.2) := by
      unfold strM; simp [h1]
    rw [this]
    try simp (maxDischargeDepth := 8) [↓sC, sB, sM]
    exact ⟨h1, hf⟩

theorem end_spec {w : World} {b : Nat} {v : Value} {B : List UInt8} {k : Nat} (h : IsRd w b v B k) :
    Thr P 25 #[pt b 0] w (fun r w' => k = B.length ∧ Fr [] w w') (fun ch w' => k < B.length ∧ ch = faultC 3 k ∧ Fr [] w w') := by
  refine F25ok ?_
  unfold F25
  have hle := h.le
  refine (left_spec h).call ?_
  rintro _ w1 ⟨rfl, hf⟩
  obtain ⟨d, hd⟩ : ∃ d, d = B.length - k := ⟨_, rfl⟩
  rw [← hd]
  by_cases h0 : 0 < d
  · try simp (maxDischargeDepth := 8) [↓sC, sB, sM, h0]
    refine (fail_spec (h.fr0 hf)).call (fun _ _ hF => hF.elim) ?_
    rintro ch w2 ⟨rfl, rfl⟩
    try simp (maxDischargeDepth := 8) [↓sC, sB, sM]
    exact ⟨by omega, hf⟩
  · try simp (maxDischargeDepth := 8) [↓sC, sB, sM, h0]
    exact ⟨by omega, hf⟩

def uptoM (most : Int) (l : List UInt8) : Nat × Nat × Nat :=
  let q := num l
  if q.2.2 ≠ 0 then q else if (max most 0).toNat < q.1 then (0, q.2.1, 1) else q

def zP (kind : UInt8) : PartP := ⟨kind, 0, 0, 0, [], false⟩
def partM (kind : UInt8) (most : Int) (l : List UInt8) : PartP × Nat × Nat :=
  if kind = 117 then let q := num l; ({ zP kind with u := q.1 }, q.2.1, q.2.2)
  else if kind = 105 then let q := num l; ({ zP kind with i := zag q.1 }, q.2.1, q.2.2)
  else if kind = 102 then let q := floatM l; ({ zP kind with f := q.1 }, q.2.1, q.2.2)
  else if kind = 115 then let q := strM most l; ({ zP kind with s := q.1 }, q.2.1, q.2.2)
  else if kind = 98 then let q := flagM l; ({ zP kind with b := q.1 }, q.2.1, q.2.2)
  else (zP kind, 0, 5)
theorem floatM_lt {l : List UInt8} (h : (floatM l).2.2 = 0) : (floatM l).1 < 2 * H63 := by
  have hp := placeM_lt 8 0 l 0 (by omega)
  have h256 : (256 : Nat) ^ (0 + 8) = 2 * H63 := by decide
  unfold floatM at h ⊢
  generalize placeM 8 0 l = r at *
  obtain ⟨r1, r2, r3⟩ := r
  simp only at h hp ⊢
  by_cases h3 : r3 = 0
  · subst h3
    have hp := hp rfl
    rw [h256] at hp
    simp only [ne_eq, not_true_eq_false, if_false] at h ⊢
    split
    · exact backB_lt hp
    · show 0 < 2 * H63; decide
  · simp only [ne_eq, h3, not_false_eq_true, if_true] at h ⊢
theorem partM_ok {kind : UInt8} {most : Int} {l : List UInt8} (h : (partM kind most l).2.2 = 0) : okP (partM kind most l).1 := by
  unfold partM at h ⊢
  have hH : 0 < 2 * H63 := by decide
  have z : okP (zP kind) := ⟨hH, ⟨by show (-9223372036854775808 : Int) ≤ 0; omega, by show (0 : Int) < 9223372036854775808; omega⟩, hH⟩
  split
  · rename_i hk
    rw [if_pos hk] at h
    exact ⟨num_lt h, z.2⟩
  · rename_i hk
    rw [if_neg hk] at h
    split
    · rename_i hk
      rw [if_pos hk] at h
      exact ⟨z.1, zag_range (num_lt h), z.2.2⟩
    · rename_i hk
      rw [if_neg hk] at h
      split
      · rename_i hk
        rw [if_pos hk] at h
        exact ⟨z.1, z.2.1, floatM_lt h⟩
      · split
        · exact z
        · split
          · exact z
          · exact z

theorem part_spec {w : World} {b : Nat} {v : Value} {B : List UInt8} {k : Nat} {most : Int} {kind : UInt8} (h : IsRd w b v B k) (hm : most < 9223372036854775808) :
    Rd 24 #[pt b 0, bv kind, i64 most] w b v B k (fun p => .agg (partC p).toArray) (partM kind most (B.drop k)) := by
  refine F24ok ?_
  unfold F24
  obtain ⟨z, hz⟩ : ∃ z : List Value, z = partC (zP 0) := ⟨_, rfl⟩
  have hz' : [Value.int IntKind.u8 0, Value.int IntKind.u64 0, Value.int IntKind.i64 0, Value.float FloatKind.f64 0, Value.string ByteArray.empty, Value.bool false] = z := by rw [hz]; rfl
  have hlb := lt_of_fz h.fz
  have hzs : partC (zP kind) = [bv kind, u64 0, i64 0, fl 0, strB [], .bool false] := rfl
  have hs6 : ∀ p l : List Value, l.length = 6 → p.length = 6 → splice l 0 p = p := fun p l hl hp => splice_full (by rw [hl, hp])
  have hbld : ∀ w, pBuild P 28 [(0, bv kind)] w = some (.agg (partC (zP kind)).toArray, w) := fun w => by
    rw [bf28 (by simp)]; rfl
  have hzl : z.length = 6 := by rw [hz]; rfl
  have hpl : ∀ p, (partC p).length = 6 := fun _ => rfl
  obtain ⟨W, hW⟩ : ∃ W, W = wr (nw (nw w z 28) z 28) (sz w + 1) (partC (zP kind)) := ⟨_, rfl⟩
  have hfW : Fr [] w W := by rw [hW]; exact (((Fr.refl [] w).nw _ _).nw _ _).wr (.inr (by omega)) _
  have hsW : sz W = sz w + 1 + 1 := by rw [hW]; simp [sM]
  have hmW : mm W (sz w + 1) = partC (zP kind) := by rw [hW]; simp [sM]
  have hzW : fz W (sz w + 1) = false := by rw [hW]; simp [sM]
  have hmW0 : mm W (sz w) = z := by rw [hW]; simp [sM]
  have hzW0 : fz W (sz w) = false := by rw [hW]; simp [sM]
  have hrW := h.fr0 hfW
  try simp only [al28, hz']
  try simp (maxDischargeDepth := 8) [↓sC, sB, sM, hbld, hs6, hzl, hpl, partC_oneT, ← hW]
  have keep : ∀ {w2 : World}, Fr [b] W w2 → mm w2 (sz w + 1) = partC (zP kind) ∧ fz w2 (sz w + 1) = false ∧ mm w2 (sz w) = z ∧ fz w2 (sz w) = false := fun {w2} hf => by
    have n1 : sz w + 1 ∉ [b] := by simp; omega
    have n0 : sz w ∉ [b] := by simp; omega
    exact ⟨by rw [hf.mm (by omega) n1, hmW], by rw [hf.fz (by omega) n1, hzW], by rw [hf.mm (by omega) n0, hmW0], by rw [hf.fz (by omega) n0, hzW0]⟩
  have fin : ∀ {w2 : World} (L : List Value) (k' : Nat), Fr [b] W w2 → IsRd w2 b v B k' → IsRd (wr (wr w2 (sz w + 1) L) (sz w) L) b v B k' ∧ Fr [b] w (wr (wr w2 (sz w + 1) L) (sz w) L) := fun {w2} L k' hf hr => by
    refine ⟨?_, ((hfW.mono (by simp)).trans hf (by simp)).wr (.inr (by omega)) _ |>.wr (.inr (by omega)) _⟩
    have f2 : Fr [sz w + 1, sz w] w2 (wr (wr w2 (sz w + 1) L) (sz w) L) := ((Fr.refl _ _).wr (.inl (by simp)) _).wr (.inl (by simp)) _
    exact hr.fr f2 (by simp; omega) (fun h0 c hc _ => by have := rdb_lt h.rd h0 hc; simp; omega)
  have n01 : ¬ sz w = sz w + 1 := by omega
  try simp only [ki117, ki105, ki102, ki115, ki98]
  by_cases k117 : kind = 117
  · have hpm : partM kind most (B.drop k) = ({ zP kind with u := (num (B.drop k)).1 }, (num (B.drop k)).2.1, (num (B.drop k)).2.2) := by unfold partM; rw [if_pos k117]
    rw [hpm]
    obtain ⟨L, hL⟩ : ∃ L, L = partC { zP kind with u := (num (B.drop k)).1 } := ⟨_, rfl⟩
    have hset : (partC (zP kind)).set 1 (gt (partC { zP kind with u := (num (B.drop k)).1 }) 1) = L := by rw [hL]; rfl
    have hl6 : L.length = 6 := by rw [hL]; rfl
    have ht6 : List.take 6 L = L := List.take_of_length_le (by omega)
    have h1L : (∀ v, v ∈ L → v.oneCell' = true) = True := by rw [hL]; exact partC_oneT _
    simp only [partC, gt_zero, gt_succ] at hset
    rw [← hL]
    try simp (maxDischargeDepth := 8) [↓sC, sB, sM, k117]
    refine (rU_spec hrW).call ?_ ?_
    · rintro _ w2 ⟨h1, rfl, hr, hf⟩
      obtain ⟨q1, q2, q3, q4⟩ := keep hf
      simp only [partC] at q1
      try simp (maxDischargeDepth := 8) [↓sC, sB, sM, q1, q2, q3, q4, hpl, hzl, n01, hset, hl6, ht6, h1L, hs6]
      exact ⟨h1, fin L _ hf hr⟩
    · rintro ch w2 ⟨h1, rfl, hf⟩
      try simp (maxDischargeDepth := 8) [↓sC, sB, sM]
      exact ⟨h1, (hfW.mono (by simp)).trans hf (by simp)⟩
  by_cases k105 : kind = 105
  · have hpm : partM kind most (B.drop k) = ({ zP kind with i := zag (num (B.drop k)).1 }, (num (B.drop k)).2.1, (num (B.drop k)).2.2) := by unfold partM; rw [if_neg k117, if_pos k105]
    rw [hpm]
    obtain ⟨L, hL⟩ : ∃ L, L = partC { zP kind with i := zag (num (B.drop k)).1 } := ⟨_, rfl⟩
    have hset : (partC (zP kind)).set 2 (gt (partC { zP kind with i := zag (num (B.drop k)).1 }) 2) = L := by rw [hL]; rfl
    have hl6 : L.length = 6 := by rw [hL]; rfl
    have ht6 : List.take 6 L = L := List.take_of_length_le (by omega)
    have h1L : (∀ v, v ∈ L → v.oneCell' = true) = True := by rw [hL]; exact partC_oneT _
    simp only [partC, gt_zero, gt_succ] at hset
    rw [← hL]
    try simp (maxDischargeDepth := 8) [↓sC, sB, sM, k105, k117]
    refine (rI_spec hrW).call ?_ ?_
    · rintro _ w2 ⟨h1, rfl, hr, hf⟩
      obtain ⟨q1, q2, q3, q4⟩ := keep hf
      simp only [partC] at q1
      try simp (maxDischargeDepth := 8) [↓sC, sB, sM, q1, q2, q3, q4, hpl, hzl, n01, hset, hl6, ht6, h1L, hs6]
      exact ⟨h1, fin L _ hf hr⟩
    · rintro ch w2 ⟨h1, rfl, hf⟩
      try simp (maxDischargeDepth := 8) [↓sC, sB, sM]
      exact ⟨h1, (hfW.mono (by simp)).trans hf (by simp)⟩
  by_cases k102 : kind = 102
  · have hpm : partM kind most (B.drop k) = ({ zP kind with f := (floatM (B.drop k)).1 }, (floatM (B.drop k)).2.1, (floatM (B.drop k)).2.2) := by unfold partM; rw [if_neg k117, if_neg k105, if_pos k102]
    rw [hpm]
    obtain ⟨L, hL⟩ : ∃ L, L = partC { zP kind with f := (floatM (B.drop k)).1 } := ⟨_, rfl⟩
    have hset : (partC (zP kind)).set 3 (gt (partC { zP kind with f := (floatM (B.drop k)).1 }) 3) = L := by rw [hL]; rfl
    have hl6 : L.length = 6 := by rw [hL]; rfl
    have ht6 : List.take 6 L = L := List.take_of_length_le (by omega)
    have h1L : (∀ v, v ∈ L → v.oneCell' = true) = True := by rw [hL]; exact partC_oneT _
    simp only [partC, gt_zero, gt_succ] at hset
    rw [← hL]
    try simp (maxDischargeDepth := 8) [↓sC, sB, sM, k102, k117, k105]
    refine (rF_spec hrW).call ?_ ?_
    · rintro _ w2 ⟨h1, rfl, hr, hf⟩
      obtain ⟨q1, q2, q3, q4⟩ := keep hf
      simp only [partC] at q1
      try simp (maxDischargeDepth := 8) [↓sC, sB, sM, q1, q2, q3, q4, hpl, hzl, n01, hset, hl6, ht6, h1L, hs6]
      exact ⟨h1, fin L _ hf hr⟩
    · rintro ch w2 ⟨h1, rfl, hf⟩
      try simp (maxDischargeDepth := 8) [↓sC, sB, sM]
      exact ⟨h1, (hfW.mono (by simp)).trans hf (by simp)⟩
  by_cases k115 : kind = 115
  · have hpm : partM kind most (B.drop k) = ({ zP kind with s := (strM most (B.drop k)).1 }, (strM most (B.drop k)).2.1, (strM most (B.drop k)).2.2) := by unfold partM; rw [if_neg k117, if_neg k105, if_neg k102, if_pos k115]
    rw [hpm]
    obtain ⟨L, hL⟩ : ∃ L, L = partC { zP kind with s := (strM most (B.drop k)).1 } := ⟨_, rfl⟩
    have hset : (partC (zP kind)).set 4 (gt (partC { zP kind with s := (strM most (B.drop k)).1 }) 4) = L := by rw [hL]; rfl
    have hl6 : L.length = 6 := by rw [hL]; rfl
    have ht6 : List.take 6 L = L := List.take_of_length_le (by omega)
    have h1L : (∀ v, v ∈ L → v.oneCell' = true) = True := by rw [hL]; exact partC_oneT _
    simp only [partC, gt_zero, gt_succ] at hset
    rw [← hL]
    try simp (maxDischargeDepth := 8) [↓sC, sB, sM, k115, k117, k105, k102]
    refine (rS_spec hrW hm).call ?_ ?_
    · rintro _ w2 ⟨h1, rfl, hr, hf⟩
      obtain ⟨q1, q2, q3, q4⟩ := keep hf
      simp only [partC] at q1
      try simp (maxDischargeDepth := 8) [↓sC, sB, sM, q1, q2, q3, q4, hpl, hzl, n01, hset, hl6, ht6, h1L, hs6]
      exact ⟨h1, fin L _ hf hr⟩
    · rintro ch w2 ⟨h1, rfl, hf⟩
      try simp (maxDischargeDepth := 8) [↓sC, sB, sM]
      exact ⟨h1, (hfW.mono (by simp)).trans hf (by simp)⟩
  by_cases k98 : kind = 98
  · have hpm : partM kind most (B.drop k) = ({ zP kind with b := (flagM (B.drop k)).1 }, (flagM (B.drop k)).2.1, (flagM (B.drop k)).2.2) := by unfold partM; rw [if_neg k117, if_neg k105, if_neg k102, if_neg k115, if_pos k98]
    rw [hpm]
    obtain ⟨L, hL⟩ : ∃ L, L = partC { zP kind with b := (flagM (B.drop k)).1 } := ⟨_, rfl⟩
    have hset : (partC (zP kind)).set 5 (gt (partC { zP kind with b := (flagM (B.drop k)).1 }) 5) = L := by rw [hL]; rfl
    have hl6 : L.length = 6 := by rw [hL]; rfl
    have ht6 : List.take 6 L = L := List.take_of_length_le (by omega)
    have h1L : (∀ v, v ∈ L → v.oneCell' = true) = True := by rw [hL]; exact partC_oneT _
    simp only [partC, gt_zero, gt_succ] at hset
    rw [← hL]
    try simp (maxDischargeDepth := 8) [↓sC, sB, sM, k98, k117, k105, k102, k115]
    refine (rFlag_spec hrW).call ?_ ?_
    · rintro _ w2 ⟨h1, rfl, hr, hf⟩
      obtain ⟨q1, q2, q3, q4⟩ := keep hf
      simp only [partC] at q1
      try simp (maxDischargeDepth := 8) [↓sC, sB, sM, q1, q2, q3, q4, hpl, hzl, n01, hset, hl6, ht6, h1L, hs6]
      exact ⟨h1, fin L _ hf hr⟩
    · rintro ch w2 ⟨h1, rfl, hf⟩
      try simp (maxDischargeDepth := 8) [↓sC, sB, sM]
      exact ⟨h1, (hfW.mono (by simp)).trans hf (by simp)⟩
  · have hpm : partM kind most (B.drop k) = (zP kind, 0, 5) := by unfold partM; rw [if_neg k117, if_neg k105, if_neg k102, if_neg k115, if_neg k98]
    rw [hpm]
    try simp (maxDischargeDepth := 8) [↓sC, sB, sM, k117, k105, k102, k115, k98]
    refine (fail_spec hrW).call (fun _ _ hF => hF.elim) ?_
    rintro ch w2 ⟨rfl, rfl⟩
    try simp (maxDischargeDepth := 8) [↓sC, sB, sM]
    exact hfW.mono (by simp)
theorem placeM_short : ∀ (n k : Nat) (l : List UInt8), l.length < n → placeM n k l = (0, l.length, 2) := by
  intro n
  induction n with
  | zero => intro k l h; omega
  | succ n ih =>
    intro k l h
    cases l with
    | nil => rfl
    | cons x r =>
      simp only [placeM]
      rw [ih _ r (by simpa using h)]
      rfl
theorem placeM_long : ∀ (n k : Nat) (l : List UInt8), n ≤ l.length → (placeM n k l).2 = (n, 0) := by
  intro n
  induction n with
  | zero => intro k l _; rfl
  | succ n ih =>
    intro k l h
    cases l with
    | nil => simp at h
    | cons x r =>
      simp only [placeM]
      have := ih (k * 256 + x.toNat) r (by simpa using h)
      rw [Prod.ext_iff] at this
      simp only at this
      rw [this.1, this.2]

end Go.Proofs.Ytieejbkbdfccdaa
