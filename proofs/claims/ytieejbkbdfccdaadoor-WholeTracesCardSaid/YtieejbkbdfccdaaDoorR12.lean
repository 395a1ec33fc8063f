/- Acts as bytes. -/
import Derived.Test.YtieejbkbdfccdaaDoorSim
import Derived.Test.YtieejbkbdfccdaaDoorR11
set_option linter.unusedVariables false
set_option linter.unusedSimpArgs false
namespace Go.Proofs.YtieejbkbdfccdaaDoor
open Go

def actP (a : ActP) : List PartP :=
  [uP a.kind.toNat, bP a.must, sP a.key] ++ (if (hasF a.kind).contains 110 then [iP a.n] else []) ++ (if (hasF a.kind).contains 120 then [fP a.x] else []) ++ (if (hasF a.kind).contains 115 then [sP a.s] else [])
    ++ (if (hasF a.kind).contains 109 then recP a.make else [])
theorem actP_eq (a : ActP) : actP a =
  [uP a.kind.toNat, bP a.must, sP a.key] ++ (if (hasF a.kind).contains 110 then [iP a.n] else []) ++ (if (hasF a.kind).contains 120 then [fP a.x] else []) ++ (if (hasF a.kind).contains 115 then [sP a.s] else [])
    ++ (if (hasF a.kind).contains 109 then recP a.make else []) := rfl
theorem s_le {a : ActP} (hok : ActOk a) : a.s.length ≤ 64 := by
  by_cases h : onF a.kind = 1
  · exact hok.s64 h
  · have := hok.s16 h; omega
set_option maxHeartbeats 4000000 in
set_option maxRecDepth 20000 in
theorem writeA_spec {w0 w : World} {b : Nat} {F : List Nat} {a : ActP} {la : Option Addr} {c : Nat} (hkw : KW w) (ha0 : IsAct w0 (.slice la a.make.list.length c) a) (hO : Own w0 w F) (hw : IsW w b [] F) (hok : ActOk a) (h1F : 1 ∉ F) :
    Ret P 24 #[pt b 0, .agg (acV a (.slice la a.make.list.length c)).toArray] w fun v w' => v = .tuple #[] ∧ ∃ F', More w b (encAll (actP a)) F w' F' := by
  refine F24ok ?_
  unfold F24
  have ha := ha0.fr0 hO.fr
  have hlt := hw
  obtain ⟨_, _, _, _, _, hbF, hFs⟩ := hlt
  obtain ⟨W, hW⟩ : ∃ W, W = nw w (acV a (.slice la a.make.list.length c)) 27 := ⟨_, rfl⟩
  have fW : Fr [] w W := by rw [hW]; exact (Fr.refl [] w).nw _ _
  have hm : mm W (sz w) = acV a (.slice la a.make.list.length c) := by rw [hW]; simp [mm_nw]
  have hsW : sz w < sz W := by rw [hW, sz_nw]; omega
  have hkf := kindF_ok hok.k1 hok.k21
  have hkn : a.kind.toNat < 2 * H63 := by have := hok.k21; unfold H63; omega
  have hk1 := hok.k1
  have hwk := wrap_kind (k := a.kind) (by omega) (by have := hok.k21; omega)
  have b110 : (Value.int IntKind.u8 110) = bv 110 := rfl
  have b120 : (Value.int IntKind.u8 120) = bv 120 := rfl
  have b115 : (Value.int IntKind.u8 115) = bv 115 := rfl
  have b109 : (Value.int IntKind.u8 109) = bv 109 := rfl
  try simp (maxDischargeDepth := 8) [↓sC, sB, sM, acC, ← hW, hm]
  refine (of_spec (hkw.fr0 fW)).call ?_
  rintro _ w1 ⟨rfl, f1⟩
  rw [hkf]
  have hs3 : ∀ t, ∀ l : List Value, l.length = 3 → splice l 0 (kindV t) = kindV t := fun t l hl => splice_full (by rw [hl]; rfl)
  obtain ⟨W2, hW2⟩ : ∃ W2, W2 = wr (nw w1 [Value.string ByteArray.empty, Value.int IntKind.i64 0, Value.string ByteArray.empty] 97) (sz w1) (kindV (wordF a.kind, onF a.kind, hasF a.kind)) := ⟨_, rfl⟩
  have fW2 : Fr [] w1 W2 := by rw [hW2]; exact ((Fr.refl [] w1).nw _ _).wr (.inr (Nat.le_refl _)) _
  have hm2 : mm W2 (sz w) = acV a (.slice la a.make.list.length c) := by rw [fW2.mm (f1.lt hsW) (by simp), f1.mm hsW (by simp), hm]
  have hz2 : mm W2 (sz w1) = kindV (wordF a.kind, onF a.kind, hasF a.kind) := by rw [hW2]; exact mm_wr_same (by simp [fz_nw]) _
  have hsz2 : sz w1 < sz W2 := by rw [hW2, sz_wr, sz_nw]; omega
  have hsz1 : sz w < sz W2 := by have := f1.lt hsW; omega
  have g2 : Fr [] w W2 := (fW.trans0 f1).trans0 fW2
  have hsw1 := fW.size
  have hsw2 := f1.size
  have hpF : sz w ∉ F := fun h => by have := hFs _ h; omega
  have hqF : sz w1 ∉ F := fun h => by have := hFs _ h; omega
  have hw2 : IsW W2 b ([] ++ encAll []) F := hw.fr0 g2
  have hO2 : Own w0 W2 F := hO.calm g2
  try simp (maxDischargeDepth := 8) [↓sC, sB, sM, hs3, kindV_oneT, ← hW2, hm2, hz2, hwk]
  refine (stUi hw2 (by simp) (fun p hp => by cases hp) (by simp) hkn (by omega)).call ?_
  rintro _ w3 ⟨rfl, F3, m3⟩
  have p3 : mm w3 (sz w) = acV a (.slice la a.make.list.length c) := by rw [m3.keep hsz1 hpF, hm2]
  try simp (maxDischargeDepth := 8) [↓sC, sB, sM, p3]
  refine (stB m3.is (by simp) (ok_uP hkn) (by simp) trivial).call ?_
  rintro _ w4 ⟨rfl, F4, hM4⟩
  have m4 := m3.trans hM4
  have p4 : mm w4 (sz w) = acV a (.slice la a.make.list.length c) := by rw [m4.keep hsz1 hpF, hm2]
  try simp (maxDischargeDepth := 8) [↓sC, sB, sM, p4]
  have o2 : okPL ([] ++ [uP a.kind.toNat] ++ [bP a.must]) := okPL_app (ok_uP hkn) ok_bP
  have hk24 : a.key.length ≤ 64 := by have := hok.key24; omega
  refine (stS m4.is (by simp) o2 (by simp) hk24).call ?_
  rintro _ w5 ⟨rfl, F5, hM5⟩
  have m5 := m4.trans hM5
  have p5 : mm w5 (sz w) = acV a (.slice la a.make.list.length c) := by rw [m5.keep hsz1 hpF, hm2]
  have z5 : mm w5 (sz w1) = kindV (wordF a.kind, onF a.kind, hasF a.kind) := by rw [m5.keep hsz2 hqF, hz2]
  have o5 : okPL ([] ++ [uP a.kind.toNat] ++ [bP a.must] ++ [sP a.key]) := okPL_app o2 (ok_sP hk24)
  try simp (maxDischargeDepth := 8) [↓sC, sB, sM, z5, k3, b110]
  refine fieldK_spec.call ?_
  rintro _ w6 ⟨rfl, f6⟩
  have m6 := m5.calm f6
  have p6 : mm w6 (sz w) = acV a (.slice la a.make.list.length c) := by rw [m6.keep hsz1 hpF, hm2]
  have z6 : mm w6 (sz w1) = kindV (wordF a.kind, onF a.kind, hasF a.kind) := by rw [m6.keep hsz2 hqF, hz2]
  have hap := actP_eq a
  rcases classes hok.k1 hok.k21 with ⟨qn, qx, qs, qm, qo, qb, qi⟩ | ⟨qn, qx, qs, qm, qo, qb, qi⟩ | ⟨qn, qx, qs, qm, qo, qb, qi⟩ | ⟨qn, qx, qs, qm, qo, qb, qi⟩ | ⟨qn, qx, qs, qm, qo, qb, qi⟩ | ⟨qn, qx, qs, qm, qo, qb, qi⟩ | ⟨qn, qx, qs, qm, qo, qb, qi⟩ | ⟨qn, qx, qs, qm, qo, qb, qi⟩
  · rw [qn]
    rw [qn, qx, qs, qm] at hap
    try simp (maxDischargeDepth := 8) [↓sC, sB, sM, p6, z6, k3, b120]
    refine fieldK_spec.call ?_
    rintro _ w7 ⟨rfl, f7⟩
    have m7 := m6.calm f7
    have p7 : mm w7 (sz w) = acV a (.slice la a.make.list.length c) := by rw [m7.keep hsz1 hpF, hm2]
    have z7 : mm w7 (sz w1) = kindV (wordF a.kind, onF a.kind, hasF a.kind) := by rw [m7.keep hsz2 hqF, hz2]
    rw [qx]
    try simp (maxDischargeDepth := 8) [↓sC, sB, sM, p7, z7, k3, b115]
    refine fieldK_spec.call ?_
    rintro _ w8 ⟨rfl, f8⟩
    have m8 := m7.calm f8
    have p8 : mm w8 (sz w) = acV a (.slice la a.make.list.length c) := by rw [m8.keep hsz1 hpF, hm2]
    have z8 : mm w8 (sz w1) = kindV (wordF a.kind, onF a.kind, hasF a.kind) := by rw [m8.keep hsz2 hqF, hz2]
    rw [qs]
    try simp (maxDischargeDepth := 8) [↓sC, sB, sM, p8, z8, k3, b109]
    refine fieldK_spec.call ?_
    rintro _ w9 ⟨rfl, f9⟩
    have m9 := m8.calm f9
    have p9 : mm w9 (sz w) = acV a (.slice la a.make.list.length c) := by rw [m9.keep hsz1 hpF, hm2]
    have z9 : mm w9 (sz w1) = kindV (wordF a.kind, onF a.kind, hasF a.kind) := by rw [m9.keep hsz2 hqF, hz2]
    rw [qm]
    try simp (maxDischargeDepth := 8) [↓sC, sB, sM, p9, z9, k3]
    have hE : encAll (actP a) = _ := congrArg encAll (show actP a = _ from hap)
    rw [hE]
    exact ⟨_, by simpa using m9.is, g2.mono (T := F) (by simp) |>.trans m9.fr (fun k hk => .inl hk), fun k hk => (m9.new k hk).imp id fun h => Nat.le_trans g2.size h⟩
  · rw [qn]
    rw [qn, qx, qs, qm] at hap
    have kb : a.kind = 1 := by simpa using qb
    try simp (maxDischargeDepth := 8) [↓sC, sB, sM, p6, z6, k3, b120]
    refine fieldK_spec.call ?_
    rintro _ w7 ⟨rfl, f7⟩
    have m7 := m6.calm f7
    have p7 : mm w7 (sz w) = acV a (.slice la a.make.list.length c) := by rw [m7.keep hsz1 hpF, hm2]
    have z7 : mm w7 (sz w1) = kindV (wordF a.kind, onF a.kind, hasF a.kind) := by rw [m7.keep hsz2 hqF, hz2]
    rw [qx]
    try simp (maxDischargeDepth := 8) [↓sC, sB, sM, p7, z7, k3, b115]
    refine fieldK_spec.call ?_
    rintro _ w8 ⟨rfl, f8⟩
    have m8 := m7.calm f8
    have p8 : mm w8 (sz w) = acV a (.slice la a.make.list.length c) := by rw [m8.keep hsz1 hpF, hm2]
    have z8 : mm w8 (sz w1) = kindV (wordF a.kind, onF a.kind, hasF a.kind) := by rw [m8.keep hsz2 hqF, hz2]
    rw [qs]
    try simp (maxDischargeDepth := 8) [↓sC, sB, sM, p8, z8, k3, b109]
    refine fieldK_spec.call ?_
    rintro _ w9 ⟨rfl, f9⟩
    have m9 := m8.calm f9
    have p9 : mm w9 (sz w) = acV a (.slice la a.make.list.length c) := by rw [m9.keep hsz1 hpF, hm2]
    have z9 : mm w9 (sz w1) = kindV (wordF a.kind, onF a.kind, hasF a.kind) := by rw [m9.keep hsz2 hqF, hz2]
    rw [qm]
    try simp (maxDischargeDepth := 8) [↓sC, sB, sM, p9, z9, k3, am5]
    have hB := encAll_len o5
    refine (put_spec (w0 := w0) ha0.1 (hO2.step m9.fr m9.new) m9.is (hok.make1 kb) (by simp only [List.length_append, List.length_cons, List.length_nil] at hB ⊢; omega)).call ?_
    rintro _ w10 ⟨rfl, F10, hM10⟩
    have m10 := m9.trans hM10
    try simp (maxDischargeDepth := 8) [↓sC, sB, sM]
    have hE : encAll (actP a) = _ := congrArg encAll (show actP a = _ from hap)
    rw [hE]
    simp only [List.nil_append, List.append_assoc, ← encAll_app] at m10
    exact ⟨_, by simpa using m10.is, g2.mono (T := F) (by simp) |>.trans m10.fr (fun k hk => .inl hk), fun k hk => (m10.new k hk).imp id fun h => Nat.le_trans g2.size h⟩
  · rw [qn]
    rw [qn, qx, qs, qm] at hap
    try simp (maxDischargeDepth := 8) [↓sC, sB, sM, p6, z6, k3, b120]
    refine fieldK_spec.call ?_
    rintro _ w7 ⟨rfl, f7⟩
    have m7 := m6.calm f7
    have p7 : mm w7 (sz w) = acV a (.slice la a.make.list.length c) := by rw [m7.keep hsz1 hpF, hm2]
    have z7 : mm w7 (sz w1) = kindV (wordF a.kind, onF a.kind, hasF a.kind) := by rw [m7.keep hsz2 hqF, hz2]
    rw [qx]
    try simp (maxDischargeDepth := 8) [↓sC, sB, sM, p7, z7, k3, b115]
    refine fieldK_spec.call ?_
    rintro _ w8 ⟨rfl, f8⟩
    have m8 := m7.calm f8
    have p8 : mm w8 (sz w) = acV a (.slice la a.make.list.length c) := by rw [m8.keep hsz1 hpF, hm2]
    have z8 : mm w8 (sz w1) = kindV (wordF a.kind, onF a.kind, hasF a.kind) := by rw [m8.keep hsz2 hqF, hz2]
    rw [qs]
    try simp (maxDischargeDepth := 8) [↓sC, sB, sM, p8, z8, k3]
    refine (stS m8.is (by simp) o5 (by simp) (s_le hok)).call ?_
    rintro _ w9 ⟨rfl, F9, hM9⟩
    have m9 := m8.trans hM9
    have p9 : mm w9 (sz w) = acV a (.slice la a.make.list.length c) := by rw [m9.keep hsz1 hpF, hm2]
    have z9 : mm w9 (sz w1) = kindV (wordF a.kind, onF a.kind, hasF a.kind) := by rw [m9.keep hsz2 hqF, hz2]
    try simp (maxDischargeDepth := 8) [↓sC, sB, sM, p9, z9, k3, b109]
    refine fieldK_spec.call ?_
    rintro _ w10 ⟨rfl, f10⟩
    have m10 := m9.calm f10
    have p10 : mm w10 (sz w) = acV a (.slice la a.make.list.length c) := by rw [m10.keep hsz1 hpF, hm2]
    have z10 : mm w10 (sz w1) = kindV (wordF a.kind, onF a.kind, hasF a.kind) := by rw [m10.keep hsz2 hqF, hz2]
    rw [qm]
    try simp (maxDischargeDepth := 8) [↓sC, sB, sM, p10, z10, k3]
    have hE : encAll (actP a) = _ := congrArg encAll (show actP a = _ from hap)
    rw [hE]
    exact ⟨_, by simpa using m10.is, g2.mono (T := F) (by simp) |>.trans m10.fr (fun k hk => .inl hk), fun k hk => (m10.new k hk).imp id fun h => Nat.le_trans g2.size h⟩
  · rw [qn]
    rw [qn, qx, qs, qm] at hap
    try simp (maxDischargeDepth := 8) [↓sC, sB, sM, p6, z6, k3]
    refine (stI m6.is (by simp) o5 (by simp) (ha.2.2.1)).call ?_
    rintro _ w7 ⟨rfl, F7, hM7⟩
    have m7 := m6.trans hM7
    have p7 : mm w7 (sz w) = acV a (.slice la a.make.list.length c) := by rw [m7.keep hsz1 hpF, hm2]
    have z7 : mm w7 (sz w1) = kindV (wordF a.kind, onF a.kind, hasF a.kind) := by rw [m7.keep hsz2 hqF, hz2]
    try simp (maxDischargeDepth := 8) [↓sC, sB, sM, p7, z7, k3, b120]
    refine fieldK_spec.call ?_
    rintro _ w8 ⟨rfl, f8⟩
    have m8 := m7.calm f8
    have p8 : mm w8 (sz w) = acV a (.slice la a.make.list.length c) := by rw [m8.keep hsz1 hpF, hm2]
    have z8 : mm w8 (sz w1) = kindV (wordF a.kind, onF a.kind, hasF a.kind) := by rw [m8.keep hsz2 hqF, hz2]
    rw [qx]
    try simp (maxDischargeDepth := 8) [↓sC, sB, sM, p8, z8, k3, b115]
    refine fieldK_spec.call ?_
    rintro _ w9 ⟨rfl, f9⟩
    have m9 := m8.calm f9
    have p9 : mm w9 (sz w) = acV a (.slice la a.make.list.length c) := by rw [m9.keep hsz1 hpF, hm2]
    have z9 : mm w9 (sz w1) = kindV (wordF a.kind, onF a.kind, hasF a.kind) := by rw [m9.keep hsz2 hqF, hz2]
    rw [qs]
    try simp (maxDischargeDepth := 8) [↓sC, sB, sM, p9, z9, k3, b109]
    refine fieldK_spec.call ?_
    rintro _ w10 ⟨rfl, f10⟩
    have m10 := m9.calm f10
    have p10 : mm w10 (sz w) = acV a (.slice la a.make.list.length c) := by rw [m10.keep hsz1 hpF, hm2]
    have z10 : mm w10 (sz w1) = kindV (wordF a.kind, onF a.kind, hasF a.kind) := by rw [m10.keep hsz2 hqF, hz2]
    rw [qm]
    try simp (maxDischargeDepth := 8) [↓sC, sB, sM, p10, z10, k3]
    have hE : encAll (actP a) = _ := congrArg encAll (show actP a = _ from hap)
    rw [hE]
    exact ⟨_, by simpa using m10.is, g2.mono (T := F) (by simp) |>.trans m10.fr (fun k hk => .inl hk), fun k hk => (m10.new k hk).imp id fun h => Nat.le_trans g2.size h⟩
  · rw [qn]
    rw [qn, qx, qs, qm] at hap
    try simp (maxDischargeDepth := 8) [↓sC, sB, sM, p6, z6, k3]
    refine (stI m6.is (by simp) o5 (by simp) (ha.2.2.1)).call ?_
    rintro _ w7 ⟨rfl, F7, hM7⟩
    have m7 := m6.trans hM7
    have p7 : mm w7 (sz w) = acV a (.slice la a.make.list.length c) := by rw [m7.keep hsz1 hpF, hm2]
    have z7 : mm w7 (sz w1) = kindV (wordF a.kind, onF a.kind, hasF a.kind) := by rw [m7.keep hsz2 hqF, hz2]
    try simp (maxDischargeDepth := 8) [↓sC, sB, sM, p7, z7, k3, b120]
    refine fieldK_spec.call ?_
    rintro _ w8 ⟨rfl, f8⟩
    have m8 := m7.calm f8
    have p8 : mm w8 (sz w) = acV a (.slice la a.make.list.length c) := by rw [m8.keep hsz1 hpF, hm2]
    have z8 : mm w8 (sz w1) = kindV (wordF a.kind, onF a.kind, hasF a.kind) := by rw [m8.keep hsz2 hqF, hz2]
    rw [qx]
    try simp (maxDischargeDepth := 8) [↓sC, sB, sM, p8, z8, k3, b115]
    refine fieldK_spec.call ?_
    rintro _ w9 ⟨rfl, f9⟩
    have m9 := m8.calm f9
    have p9 : mm w9 (sz w) = acV a (.slice la a.make.list.length c) := by rw [m9.keep hsz1 hpF, hm2]
    have z9 : mm w9 (sz w1) = kindV (wordF a.kind, onF a.kind, hasF a.kind) := by rw [m9.keep hsz2 hqF, hz2]
    rw [qs]
    try simp (maxDischargeDepth := 8) [↓sC, sB, sM, p9, z9, k3, b109]
    refine fieldK_spec.call ?_
    rintro _ w10 ⟨rfl, f10⟩
    have m10 := m9.calm f10
    have p10 : mm w10 (sz w) = acV a (.slice la a.make.list.length c) := by rw [m10.keep hsz1 hpF, hm2]
    have z10 : mm w10 (sz w1) = kindV (wordF a.kind, onF a.kind, hasF a.kind) := by rw [m10.keep hsz2 hqF, hz2]
    rw [qm]
    try simp (maxDischargeDepth := 8) [↓sC, sB, sM, p10, z10, k3]
    have hE : encAll (actP a) = _ := congrArg encAll (show actP a = _ from hap)
    rw [hE]
    exact ⟨_, by simpa using m10.is, g2.mono (T := F) (by simp) |>.trans m10.fr (fun k hk => .inl hk), fun k hk => (m10.new k hk).imp id fun h => Nat.le_trans g2.size h⟩
  · rw [qn]
    rw [qn, qx, qs, qm] at hap
    try simp (maxDischargeDepth := 8) [↓sC, sB, sM, p6, z6, k3, b120]
    refine fieldK_spec.call ?_
    rintro _ w7 ⟨rfl, f7⟩
    have m7 := m6.calm f7
    have p7 : mm w7 (sz w) = acV a (.slice la a.make.list.length c) := by rw [m7.keep hsz1 hpF, hm2]
    have z7 : mm w7 (sz w1) = kindV (wordF a.kind, onF a.kind, hasF a.kind) := by rw [m7.keep hsz2 hqF, hz2]
    rw [qx]
    try simp (maxDischargeDepth := 8) [↓sC, sB, sM, p7, z7, k3]
    refine (stF m7.is (by simp) o5 (by simp) (ha.2.2.2)).call ?_
    rintro _ w8 ⟨rfl, F8, hM8⟩
    have m8 := m7.trans hM8
    have p8 : mm w8 (sz w) = acV a (.slice la a.make.list.length c) := by rw [m8.keep hsz1 hpF, hm2]
    have z8 : mm w8 (sz w1) = kindV (wordF a.kind, onF a.kind, hasF a.kind) := by rw [m8.keep hsz2 hqF, hz2]
    try simp (maxDischargeDepth := 8) [↓sC, sB, sM, p8, z8, k3, b115]
    refine fieldK_spec.call ?_
    rintro _ w9 ⟨rfl, f9⟩
    have m9 := m8.calm f9
    have p9 : mm w9 (sz w) = acV a (.slice la a.make.list.length c) := by rw [m9.keep hsz1 hpF, hm2]
    have z9 : mm w9 (sz w1) = kindV (wordF a.kind, onF a.kind, hasF a.kind) := by rw [m9.keep hsz2 hqF, hz2]
    rw [qs]
    try simp (maxDischargeDepth := 8) [↓sC, sB, sM, p9, z9, k3, b109]
    refine fieldK_spec.call ?_
    rintro _ w10 ⟨rfl, f10⟩
    have m10 := m9.calm f10
    have p10 : mm w10 (sz w) = acV a (.slice la a.make.list.length c) := by rw [m10.keep hsz1 hpF, hm2]
    have z10 : mm w10 (sz w1) = kindV (wordF a.kind, onF a.kind, hasF a.kind) := by rw [m10.keep hsz2 hqF, hz2]
    rw [qm]
    try simp (maxDischargeDepth := 8) [↓sC, sB, sM, p10, z10, k3]
    have hE : encAll (actP a) = _ := congrArg encAll (show actP a = _ from hap)
    rw [hE]
    exact ⟨_, by simpa using m10.is, g2.mono (T := F) (by simp) |>.trans m10.fr (fun k hk => .inl hk), fun k hk => (m10.new k hk).imp id fun h => Nat.le_trans g2.size h⟩
  · rw [qn]
    rw [qn, qx, qs, qm] at hap
    try simp (maxDischargeDepth := 8) [↓sC, sB, sM, p6, z6, k3, b120]
    refine fieldK_spec.call ?_
    rintro _ w7 ⟨rfl, f7⟩
    have m7 := m6.calm f7
    have p7 : mm w7 (sz w) = acV a (.slice la a.make.list.length c) := by rw [m7.keep hsz1 hpF, hm2]
    have z7 : mm w7 (sz w1) = kindV (wordF a.kind, onF a.kind, hasF a.kind) := by rw [m7.keep hsz2 hqF, hz2]
    rw [qx]
    try simp (maxDischargeDepth := 8) [↓sC, sB, sM, p7, z7, k3, b115]
    refine fieldK_spec.call ?_
    rintro _ w8 ⟨rfl, f8⟩
    have m8 := m7.calm f8
    have p8 : mm w8 (sz w) = acV a (.slice la a.make.list.length c) := by rw [m8.keep hsz1 hpF, hm2]
    have z8 : mm w8 (sz w1) = kindV (wordF a.kind, onF a.kind, hasF a.kind) := by rw [m8.keep hsz2 hqF, hz2]
    rw [qs]
    try simp (maxDischargeDepth := 8) [↓sC, sB, sM, p8, z8, k3]
    refine (stS m8.is (by simp) o5 (by simp) (s_le hok)).call ?_
    rintro _ w9 ⟨rfl, F9, hM9⟩
    have m9 := m8.trans hM9
    have p9 : mm w9 (sz w) = acV a (.slice la a.make.list.length c) := by rw [m9.keep hsz1 hpF, hm2]
    have z9 : mm w9 (sz w1) = kindV (wordF a.kind, onF a.kind, hasF a.kind) := by rw [m9.keep hsz2 hqF, hz2]
    try simp (maxDischargeDepth := 8) [↓sC, sB, sM, p9, z9, k3, b109]
    refine fieldK_spec.call ?_
    rintro _ w10 ⟨rfl, f10⟩
    have m10 := m9.calm f10
    have p10 : mm w10 (sz w) = acV a (.slice la a.make.list.length c) := by rw [m10.keep hsz1 hpF, hm2]
    have z10 : mm w10 (sz w1) = kindV (wordF a.kind, onF a.kind, hasF a.kind) := by rw [m10.keep hsz2 hqF, hz2]
    rw [qm]
    try simp (maxDischargeDepth := 8) [↓sC, sB, sM, p10, z10, k3]
    have hE : encAll (actP a) = _ := congrArg encAll (show actP a = _ from hap)
    rw [hE]
    exact ⟨_, by simpa using m10.is, g2.mono (T := F) (by simp) |>.trans m10.fr (fun k hk => .inl hk), fun k hk => (m10.new k hk).imp id fun h => Nat.le_trans g2.size h⟩
  · rw [qn]
    rw [qn, qx, qs, qm] at hap
    try simp (maxDischargeDepth := 8) [↓sC, sB, sM, p6, z6, k3, b120]
    refine fieldK_spec.call ?_
    rintro _ w7 ⟨rfl, f7⟩
    have m7 := m6.calm f7
    have p7 : mm w7 (sz w) = acV a (.slice la a.make.list.length c) := by rw [m7.keep hsz1 hpF, hm2]
    have z7 : mm w7 (sz w1) = kindV (wordF a.kind, onF a.kind, hasF a.kind) := by rw [m7.keep hsz2 hqF, hz2]
    rw [qx]
    try simp (maxDischargeDepth := 8) [↓sC, sB, sM, p7, z7, k3]
    refine (stF m7.is (by simp) o5 (by simp) (ha.2.2.2)).call ?_
    rintro _ w8 ⟨rfl, F8, hM8⟩
    have m8 := m7.trans hM8
    have p8 : mm w8 (sz w) = acV a (.slice la a.make.list.length c) := by rw [m8.keep hsz1 hpF, hm2]
    have z8 : mm w8 (sz w1) = kindV (wordF a.kind, onF a.kind, hasF a.kind) := by rw [m8.keep hsz2 hqF, hz2]
    try simp (maxDischargeDepth := 8) [↓sC, sB, sM, p8, z8, k3, b115]
    refine fieldK_spec.call ?_
    rintro _ w9 ⟨rfl, f9⟩
    have m9 := m8.calm f9
    have p9 : mm w9 (sz w) = acV a (.slice la a.make.list.length c) := by rw [m9.keep hsz1 hpF, hm2]
    have z9 : mm w9 (sz w1) = kindV (wordF a.kind, onF a.kind, hasF a.kind) := by rw [m9.keep hsz2 hqF, hz2]
    rw [qs]
    try simp (maxDischargeDepth := 8) [↓sC, sB, sM, p9, z9, k3]
    refine (stS m9.is (by simp) (okPL_app o5 (ok_fP (ha.2.2.2))) (by simp) (s_le hok)).call ?_
    rintro _ w10 ⟨rfl, F10, hM10⟩
    have m10 := m9.trans hM10
    have p10 : mm w10 (sz w) = acV a (.slice la a.make.list.length c) := by rw [m10.keep hsz1 hpF, hm2]
    have z10 : mm w10 (sz w1) = kindV (wordF a.kind, onF a.kind, hasF a.kind) := by rw [m10.keep hsz2 hqF, hz2]
    try simp (maxDischargeDepth := 8) [↓sC, sB, sM, p10, z10, k3, b109]
    refine fieldK_spec.call ?_
    rintro _ w11 ⟨rfl, f11⟩
    have m11 := m10.calm f11
    have p11 : mm w11 (sz w) = acV a (.slice la a.make.list.length c) := by rw [m11.keep hsz1 hpF, hm2]
    have z11 : mm w11 (sz w1) = kindV (wordF a.kind, onF a.kind, hasF a.kind) := by rw [m11.keep hsz2 hqF, hz2]
    rw [qm]
    try simp (maxDischargeDepth := 8) [↓sC, sB, sM, p11, z11, k3]
    have hE : encAll (actP a) = _ := congrArg encAll (show actP a = _ from hap)
    rw [hE]
    exact ⟨_, by simpa using m11.is, g2.mono (T := F) (by simp) |>.trans m11.fr (fun k hk => .inl hk), fun k hk => (m11.new k hk).imp id fun h => Nat.le_trans g2.size h⟩
end Go.Proofs.YtieejbkbdfccdaaDoor
