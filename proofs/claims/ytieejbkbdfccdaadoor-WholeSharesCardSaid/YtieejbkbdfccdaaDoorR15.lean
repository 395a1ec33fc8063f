/- WholePrefix: the walk. -/
import Derived.Test.YtieejbkbdfccdaaDoorSim
import Derived.Test.YtieejbkbdfccdaaDoorR14
set_option linter.unusedVariables false
set_option linter.unusedSimpArgs false
namespace Go.Proofs.YtieejbkbdfccdaaDoor
open Go

theorem slH_str {t : TypeId} (hu : P.underlying t = some .string) {l : List UInt8} {n : Nat} {w : World} (h : n ≤ l.length) : pSlice P t (strB l) none (some (i64 n)) none w = some (strB (l.take n), w) := by
  have h1 := run_sliceAt_string (P := P) w t (strB l) none (some (i64 n)) none hu
  have h2 := run_slice_string_h (P := P) w t ⟨l.toArray⟩ hu .i64 (n : Int) (by omega) (by rw [strB_size]; omega)
  have h3 : ((⟨l.toArray⟩ : ByteArray).extract 0 ((n : Int)).toNat) = ⟨(l.take n).toArray⟩ := by
    apply ByteArray.ext
    simp [ByteArray.data_extract]
  rw [h3] at h2
  have h4 : (Instr.slice t (strB l) none (some (i64 n)) none).run P w = .ok (strB (l.take n)) w := h2
  unfold pSlice runV
  rw [h1, h4]
theorem slL_str {t : TypeId} (hu : P.underlying t = some .string) {l : List UInt8} {n : Nat} {w : World} (h : n ≤ l.length) : pSlice P t (strB l) (some (i64 n)) none none w = some (strB (l.drop n), w) := by
  have h1 := run_sliceAt_string (P := P) w t (strB l) (some (i64 n)) none none hu
  have h2 := run_slice_string_l (P := P) w t ⟨l.toArray⟩ hu .i64 (n : Int) (by omega) (by rw [strB_size]; omega)
  have h3 : ((⟨l.toArray⟩ : ByteArray).extract ((n : Int)).toNat (⟨l.toArray⟩ : ByteArray).size) = ⟨(l.drop n).toArray⟩ := by
    apply ByteArray.ext
    simp [ByteArray.data_extract, strB_size]
    exact List.take_of_length_le (by simp)
  rw [h3] at h2
  have h4 : (Instr.slice t (strB l) (some (i64 n)) none none).run P w = .ok (strB (l.drop n)) w := h2
  unfold pSlice runV
  rw [h1, h4]
def aDrop : ActP := ⟨2, [97], 0, 0, [], rz, false⟩
def rSum : RecP := ⟨2, 0, 0, 0, 0, 0, [], []⟩
theorem fOk27 : fieldsOk P 27 = true := by kernel_rfl
theorem bf27_drop {w : World} : pBuild P 27 [(0, Value.int IntKind.i64 2), (1, Value.string { data := #[97] })] w = some (.agg (acV aDrop (.slice none 0 0)).toArray, w) := by
  rw [pBuild_struct hasZero27 fOk27 (fun p hp => ?_)]
  · rw [zeroL27]
    have e0 : offF P 27 0 = 0 := by kernel_rfl
    have e1 : offF P 27 1 = 1 := by kernel_rfl
    simp only [List.foldl_cons, List.foldl_nil, e0, e1]
    rfl
  · simp only [List.mem_cons, List.not_mem_nil, or_false] at hp
    rcases hp with rfl | rfl
    · exact ⟨0, 3, by kernel_rfl, by rw [cellsOf3]; rfl, by rw [zeroL27, cellsOf3]; decide⟩
    · exact ⟨1, 9, by kernel_rfl, by rw [cellsOf9]; rfl, by rw [zeroL27, cellsOf9]; decide⟩
theorem bf25_sum {w : World} : pBuild P 25 [(0, Value.int IntKind.i64 2)] w = some (.agg (rcV rSum (.slice none 0 0)).toArray, w) := by
  rw [bf25 (by simp)]; rfl
theorem rSum_is {w : World} : IsRec w (.slice none rSum.list.length 0) rSum := ⟨.inl ⟨none, 0, rfl, rfl, rfl⟩, by refine ⟨?_, ?_, ?_, ?_, ?_, ?_, ?_⟩ <;> simp [rSum, in64, H63]⟩
theorem rSum_ok : RecOk rSum := by
  refine ⟨by simp [rSum], by simp [rSum], ?_, by simp [rSum], by simp [rSum], by decide, by simp [rSum]⟩
  simp [onlyP, rSum, fieldsR, fieldL]
theorem aDrop_is {w : World} : IsAct w (.slice none aDrop.make.list.length 0) aDrop := ⟨isRec_rz, by refine ⟨?_, ?_, ?_⟩ <;> simp [aDrop, in64, H63]⟩
theorem aDrop_ok : ActOk aDrop := by
  refine ⟨by simp [aDrop], by simp [aDrop], by simp [aDrop], by simp [aDrop], fun _ => rfl, fun _ => rfl, fun _ => rfl, fun _ => ⟨rfl, rfl, rfl, rfl, rfl, rfl, rfl, rfl⟩, by simp [aDrop], by simp [aDrop], by simp [aDrop], by decide, by simp [aDrop]⟩
theorem aDrop_len : (encAll (actP aDrop)).length = 4 := by
  have : actP aDrop = [uP 2, bP false, sP [97]] := rfl
  rw [this]
  simp [encAll, encP, uP, bP, sP, digits_lt]
theorem rSum_len : (recB rSum).length = 2 := by
  have : recB rSum = encAll [uP 2, iP 0] := rfl
  rw [this]
  simp [encAll, encP, uP, iP, zig, digits_lt]
set_option maxHeartbeats 8000000 in
set_option maxRecDepth 20000 in
theorem wholePrefix_law {w : World} {a b : ActP} {la lb : Option Addr} {ca cb : Nat} (hw : KW w) (ha : IsAct w (.slice la a.make.list.length ca) a) (hb : IsAct w (.slice lb b.make.list.length cb) b) :
    Ret P 3 #[.agg (acV a (.slice la a.make.list.length ca)).toArray, .agg (acV b (.slice lb b.make.list.length cb)).toArray] w fun v w' => v = .bool true ∧ Fr [] w w' := by
  refine F3ok ?_
  unfold F3
  obtain ⟨W, hW⟩ : ∃ W, W = nw (nw w (acV a (.slice la a.make.list.length ca)) 27) (acV b (.slice lb b.make.list.length cb)) 27 := ⟨_, rfl⟩
  have g1 : Fr [] w W := by rw [hW]; exact ((Fr.refl [] w).nw _ _).nw _ _
  have hs : sz W = sz w + 2 := by rw [hW]; simp [sz_nw]
  have m1 : mm W (sz w) = acV a (.slice la a.make.list.length ca) := by rw [hW]; simp [mm_nw, sz_nw]
  have n1 : mm W (sz w + 1) = acV b (.slice lb b.make.list.length cb) := by rw [hW]; simp [mm_nw, sz_nw]
  have keepA : ∀ {W' : World}, Fr [] W W' → mm W' (sz w) = acV a (.slice la a.make.list.length ca) := fun h => by rw [h.mm (by omega) (by simp), m1]
  have keepB : ∀ {W' : World}, Fr [] W W' → mm W' (sz w + 1) = acV b (.slice lb b.make.list.length cb) := fun h => by rw [h.mm (by omega) (by simp), n1]
  try simp (maxDischargeDepth := 8) [↓sC, sB, sM, acC, ← hW, bf27_drop]
  refine (actBytes_spec (a := aDrop) (la := none) (c := 0) (hw.fr0 g1) aDrop_is aDrop_ok).call ?_
  rintro v1 w1 ⟨o1, f1⟩
  rw [aDrop_len] at o1
  obtain ⟨a1, c1, rfl⟩ := own_val o1
  try simp (maxDischargeDepth := 8) [↓sC, sB, sM, bf25_sum, -bf25]
  refine (recBytes_spec (r := rSum) (a := none) (c := 0) rSum_is (.inr rSum_ok)).call ?_
  rintro v2 w2 ⟨o2, f2⟩
  rw [rSum_len] at o2
  obtain ⟨a2, c2, rfl⟩ := own_val o2
  have h2 : Fr [] W w2 := f1.trans0 f2
  have m2 := keepA h2
  have n2 := keepB h2
  try simp (maxDischargeDepth := 8) [↓sC, sB, sM, m2, n2, a14]
  have h2d : Fr [] W (drew w2) := h2.drew
  refine (bigA_spec (ha.fr0 (g1.trans0 h2d))).call ?_
  rintro v3 w3 ⟨hv3, f3⟩
  have h3 := h2d.trans0 f3
  have n3 := keepB h3
  try simp (maxDischargeDepth := 8) [↓sC, sB, sM, n3, a14]
  refine (bigA_spec (hb.fr0 (g1.trans0 h3))).call ?_
  rintro v4 w4 ⟨hv4, f4⟩
  have h4 := h3.trans0 f4
  have m4 := keepA h4
  have n4 := keepB h4
  have w1' : IntKind.i64.wrap 1 = 1 := by decide
  have w2' : IntKind.i64.wrap 2 = 2 := by decide
  have w0' : IntKind.i64.wrap 0 = 0 := by decide
  rcases hv3.symm with rfl | rfl
  · rcases hv4 with rfl | rfl
    · try simp (maxDischargeDepth := 8) [↓sC, sB, sM, w1', w2', w0']
      exact g1.trans0 h4
    · try simp (maxDischargeDepth := 8) [↓sC, sB, sM, w1', w2', w0']
      exact g1.trans0 h4
  rcases hv4.symm with rfl | rfl
  · try simp (maxDischargeDepth := 8) [↓sC, sB, sM, w1', w2', w0']
    exact g1.trans0 h4
  try simp (maxDischargeDepth := 8) [↓sC, sB, sM, w1', w2', w0', m4, n4, a14]
  refine (refAct_spec (ha.fr0 (g1.trans0 h4))).call ?_
  rintro _ w5 ⟨n, rfl, hna, f5⟩
  have h5 := h4.trans0 f5
  rcases (Decidable.em (n = 0)).symm with z | z
  · try simp (maxDischargeDepth := 8) [↓sC, sB, sM, z]
    exact g1.trans0 h5
  have oka := hna z
  have n5 := keepB h5
  try simp (maxDischargeDepth := 8) [↓sC, sB, sM, z, n5, a14]
  refine (refAct_spec (hb.fr0 (g1.trans0 h5))).call ?_
  rintro _ w6 ⟨n', rfl, hnb, f6⟩
  have h6 := h5.trans0 f6
  rcases (Decidable.em (n' = 0)).symm with z' | z'
  · try simp (maxDischargeDepth := 8) [↓sC, sB, sM, z']
    exact g1.trans0 h6
  have okb := hnb z'
  have m6 := keepA h6
  have n6 := keepB h6
  try simp (maxDischargeDepth := 8) [↓sC, sB, sM, z', m6, n6, a14]
  have h6d := h6.drew
  refine (actBytes_spec ((hw.fr0 (g1.trans0 h6d))) (ha.fr0 (g1.trans0 h6d)) oka).call ?_
  rintro x w7 ⟨o7, f7⟩
  have h7 := h6d.trans0 f7
  have n7 := keepB h7
  have hc7 : ∀ {W' : World}, Fr [] w7 W' → pConv P 28 9 x W' = some (strB (encAll (actP a)), W') := fun h => conv_str sliceE28 intK5 und9 (own_rd (own_fr o7 h (by simp)))
  have hc7a := hc7 (Fr.refl [] w7)
  try simp (maxDischargeDepth := 8) [↓sC, sB, sM, n7, a14, hc7a]
  refine (actBytes_spec ((hw.fr0 (g1.trans0 h7))) (hb.fr0 (g1.trans0 h7)) okb).call ?_
  rintro y w8 ⟨o8, f8⟩
  have h8 := h7.trans0 f8
  have hc7b := hc7 f8
  have hc8 : pConv P 28 9 y w8 = some (strB (encAll (actP b)), w8) := conv_str sliceE28 intK5 und9 (own_rd o8)
  have m8 := keepA h8
  have n8 := keepB h8
  have hlen : ∀ l w, pBuiltin P .len #[9] 3 [strB l] w = some (i64 l.length, w) := fun l w => len_strB und9
  have he : ∀ l m w, pBin P .eql 9 false (strB l) (strB m) w = some (.bool (decide (l = m)), w) := fun l m w => eq_strB
  have hinj := fun {t} => inj_act (t := t) oka okb ha.2 hb.2 ha.1.2 hb.1.2
  have hend := ends oka
  have hXl := encAll_len (actP_ok oka ha.2 ha.1.2).1
  have hXl2 := (actP_ok oka ha.2 ha.1.2).2
  have hmk : a.make.kind = 0 ∨ RecOk a.make := by
    by_cases h : a.kind = 1
    · exact .inr (oka.make1 h)
    · exact .inl (oka.make0 h).1
  generalize encAll (actP a) = X at *
  generalize encAll (actP b) = Y at *

  by_cases q1 : X.length ≤ Y.length
  · have q1i : (X.length : Int) ≤ Y.length := by omega
    have q2 : ∀ w, pSlice P 9 (strB Y) none (some (i64 X.length)) none w = some (strB (Y.take X.length), w) := fun w => slH_str und9 q1
    by_cases q3 : Y.take X.length = X
    · have hs8 := hinj (t := Y.drop X.length) (by conv => lhs; rw [← List.take_append_drop X.length Y]; rw [q3])
      try simp (maxDischargeDepth := 8) [↓sC, sB, sM, hc7b, hc8, hlen, he, q1, q1i, q2, q3, m8, n8, a14]
      refine (sameA_spec (ha.fr0 (g1.trans0 h8)) (hb.fr0 (g1.trans0 h8)) hs8 (by have := make_len oka; omega)).call ?_
      rintro _ w9 ⟨rfl, f9⟩
      have h9 := h8.trans0 f9
      have m9 := keepA h9
      try simp (maxDischargeDepth := 8) [↓sC, sB, sM, m9, am5]
      refine (recBytes_spec (ha.1.fr0 (g1.trans0 h9)) hmk).call ?_
      rintro z w10 ⟨o10, f10⟩
      have h10 := h9.trans0 f10
      have hc10 : pConv P 28 9 z w10 = some (strB (recB a.make), w10) := conv_str sliceE28 intK5 und9 (own_rd o10)
      have m10 := keepA h10
      by_cases k1 : a.kind = 1
      · obtain ⟨B, hB, hBl⟩ := hend k1
        generalize recB a.make = M at *
        have hXB : X.length = B.length + M.length := by rw [hB, List.length_append]
        have i1 : (M.length : Int) < X.length := by omega
        have i2 : IntKind.i64.wrap ((X.length : Int) - (M.length : Int)) = ((B.length : Nat) : Int) := by rw [wrap64 (by omega) (by omega)]; omega
        have i3 : ∀ w, pSlice P 9 (strB X) (some (i64 (B.length : Nat))) none none w = some (strB M, w) := fun w => by rw [slL_str und9 (by omega), hB, List.drop_left]
        have i4 : M.length < X.length := by omega
        try simp (maxDischargeDepth := 8) [↓sC, sB, sM, hc10, m10, k1, hlen, i1, i4, i2, i3, he]
        exact g1.trans0 h10
      · try simp (maxDischargeDepth := 8) [↓sC, sB, sM, hc10, m10, k1, hlen]
        exact g1.trans0 h10
    · try simp (maxDischargeDepth := 8) [↓sC, sB, sM, hc7b, hc8, hlen, he, q1, q1i, q2, q3, m8, n8, a14]
      try simp (maxDischargeDepth := 8) [↓sC, sB, sM, m8, am5]
      refine (recBytes_spec (ha.1.fr0 (g1.trans0 h8)) hmk).call ?_
      rintro z w10 ⟨o10, f10⟩
      have h10 := h8.trans0 f10
      have hc10 : pConv P 28 9 z w10 = some (strB (recB a.make), w10) := conv_str sliceE28 intK5 und9 (own_rd o10)
      have m10 := keepA h10
      by_cases k1 : a.kind = 1
      · obtain ⟨B, hB, hBl⟩ := hend k1
        generalize recB a.make = M at *
        have hXB : X.length = B.length + M.length := by rw [hB, List.length_append]
        have i1 : (M.length : Int) < X.length := by omega
        have i2 : IntKind.i64.wrap ((X.length : Int) - (M.length : Int)) = ((B.length : Nat) : Int) := by rw [wrap64 (by omega) (by omega)]; omega
        have i3 : ∀ w, pSlice P 9 (strB X) (some (i64 (B.length : Nat))) none none w = some (strB M, w) := fun w => by rw [slL_str und9 (by omega), hB, List.drop_left]
        have i4 : M.length < X.length := by omega
        try simp (maxDischargeDepth := 8) [↓sC, sB, sM, hc10, m10, k1, hlen, i1, i4, i2, i3, he]
        exact g1.trans0 h10
      · try simp (maxDischargeDepth := 8) [↓sC, sB, sM, hc10, m10, k1, hlen]
        exact g1.trans0 h10
  · have q1i : ¬ (X.length : Int) ≤ Y.length := by omega
    try simp (maxDischargeDepth := 8) [↓sC, sB, sM, hc7b, hc8, hlen, he, q1, q1i, m8, n8, a14]
    try simp (maxDischargeDepth := 8) [↓sC, sB, sM, m8, am5]
    refine (recBytes_spec (ha.1.fr0 (g1.trans0 h8)) hmk).call ?_
    rintro z w10 ⟨o10, f10⟩
    have h10 := h8.trans0 f10
    have hc10 : pConv P 28 9 z w10 = some (strB (recB a.make), w10) := conv_str sliceE28 intK5 und9 (own_rd o10)
    have m10 := keepA h10
    by_cases k1 : a.kind = 1
    · obtain ⟨B, hB, hBl⟩ := hend k1
      generalize recB a.make = M at *
      have hXB : X.length = B.length + M.length := by rw [hB, List.length_append]
      have i1 : (M.length : Int) < X.length := by omega
      have i2 : IntKind.i64.wrap ((X.length : Int) - (M.length : Int)) = ((B.length : Nat) : Int) := by rw [wrap64 (by omega) (by omega)]; omega
      have i3 : ∀ w, pSlice P 9 (strB X) (some (i64 (B.length : Nat))) none none w = some (strB M, w) := fun w => by rw [slL_str und9 (by omega), hB, List.drop_left]
      have i4 : M.length < X.length := by omega
      try simp (maxDischargeDepth := 8) [↓sC, sB, sM, hc10, m10, k1, hlen, i1, i4, i2, i3, he]
      exact g1.trans0 h10
    · try simp (maxDischargeDepth := 8) [↓sC, sB, sM, hc10, m10, k1, hlen]
      exact g1.trans0 h10
end Go.Proofs.YtieejbkbdfccdaaDoor
