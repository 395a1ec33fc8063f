/- Acts, as the program checks them: of those that may be. -/
import Derived.Test.YtieejbkbdfccdaaDoorSim
import Derived.Test.YtieejbkbdfccdaaDoorR10
set_option linter.unusedVariables false
set_option linter.unusedSimpArgs false
namespace Go.Proofs.YtieejbkbdfccdaaDoor
open Go

theorem kindF_ok {k : Int} (h1 : 1 ≤ k) (h2 : k ≤ 21) : kindF k = (wordF k, onF k, hasF k) := by unfold kindF; rw [if_neg (by omega)]
theorem word_ne {k : Int} (h1 : 1 ≤ k) (h2 : k ≤ 21) : wordF k ≠ [] := by
  have : k = 1 ∨ k = 2 ∨ k = 3 ∨ k = 4 ∨ k = 5 ∨ k = 6 ∨ k = 7 ∨ k = 8 ∨ k = 9 ∨ k = 10 ∨ k = 11 ∨ k = 12 ∨ k = 13 ∨ k = 14 ∨ k = 15 ∨ k = 16 ∨ k = 17 ∨ k = 18 ∨ k = 19 ∨ k = 20 ∨ k = 21 := by omega
  rcases this with rfl | rfl | rfl | rfl | rfl | rfl | rfl | rfl | rfl | rfl | rfl | rfl | rfl | rfl | rfl | rfl | rfl | rfl | rfl | rfl | rfl <;> simp [wordF, wordL]
@[simp] theorem klen {t : KindT} : (kindV t).length = 3 := rfl
@[simp] theorem kg0 {t : KindT} : gt (kindV t) 0 = strB t.1 := rfl
@[simp] theorem kg1 {t : KindT} : gt (kindV t) 1 = i64 t.2.1 := rfl
@[simp] theorem kg2 {t : KindT} : gt (kindV t) 2 = strB t.2.2 := rfl
theorem k3 {t : KindT} : (kindV t).take 3 = kindV t := rfl
theorem kindC (t : KindT) : (Value.agg (kindV t).toArray).cells.toList = kindV t := rfl
theorem kindV_oneT (t : KindT) : (∀ v, v ∈ kindV t → v.oneCell' = true) = True := by simpa using fun v hv => kindV_one t v hv
theorem fieldK_spec {w : World} {k : Int} {c : UInt8} : Ret P 53 #[.agg (kindV (wordF k, onF k, hasF k)).toArray, bv c] w fun v w' => v = .bool ((hasF k).contains c) ∧ Fr [] w w' :=
  field_spec (t := (wordF k, onF k, hasF k)) (c := c) (by have := hasF_len k; show (hasF k).length ≤ 100; omega)
set_option maxHeartbeats 4000000 in
set_option maxRecDepth 20000 in
theorem bareA_spec {w : World} {a : ActP} {la : Option Addr} {c : Nat} (ha : IsAct w (.slice la a.make.list.length c) a) (hok : ActOk a) (hl : a.make.list.length ≤ 1000) :
    Ret P 47 #[.agg (acV a (.slice la a.make.list.length c)).toArray, .agg (kindV (wordF a.kind, onF a.kind, hasF a.kind)).toArray] w fun v w' => v = .bool true ∧ Fr [] w w' := by
  refine F47ok ?_
  unfold F47
  obtain ⟨W, hW⟩ : ∃ W, W = nw (nw w (acV a (.slice la a.make.list.length c)) 27) (kindV (wordF a.kind, onF a.kind, hasF a.kind)) 97 := ⟨_, rfl⟩
  have g1 : Fr [] w W := by rw [hW]; exact ((Fr.refl [] w).nw _ _).nw _ _
  have hs : sz W = sz w + 2 := by rw [hW]; simp [sz_nw]
  have m1 : mm W (sz w) = acV a (.slice la a.make.list.length c) := by rw [hW]; simp [mm_nw, sz_nw]
  have z1 : mm W (sz w + 1) = kindV (wordF a.kind, onF a.kind, hasF a.kind) := by rw [hW]; simp [mm_nw, sz_nw]
  have s1 : sz w + 1 < sz W := by omega
  have hne : ∀ l w, pBin P .eql 9 true (strB l) (Value.string { data := #[] }) w = some (.bool (decide (l = [])), w) := fun l w => eq_strB (m := [])
  have b110 : (Value.int IntKind.u8 110) = bv 110 := rfl
  have b120 : (Value.int IntKind.u8 120) = bv 120 := rfl
  have b115 : (Value.int IntKind.u8 115) = bv 115 := rfl
  have b109 : (Value.int IntKind.u8 109) = bv 109 := rfl
  try simp (maxDischargeDepth := 8) [↓sC, sB, sM, acC, kindC, ← hW, m1, z1, k3, b110]
  refine fieldK_spec.call ?_
  rintro _ w2 ⟨rfl, f2⟩
  have m2 : mm w2 (sz w) = acV a (.slice la a.make.list.length c) := by rw [f2.mm (by omega) (by simp), m1]
  have z2 : mm w2 (sz w + 1) = kindV (wordF a.kind, onF a.kind, hasF a.kind) := by rw [f2.mm s1 (by simp), z1]
  have g2 := g1.trans0 f2
  have s2 := f2.lt s1
  rcases classes hok.k1 hok.k21 with ⟨qn, qx, qs, qm, qo, qb, qi⟩ | ⟨qn, qx, qs, qm, qo, qb, qi⟩ | ⟨qn, qx, qs, qm, qo, qb, qi⟩ | ⟨qn, qx, qs, qm, qo, qb, qi⟩ | ⟨qn, qx, qs, qm, qo, qb, qi⟩ | ⟨qn, qx, qs, qm, qo, qb, qi⟩ | ⟨qn, qx, qs, qm, qo, qb, qi⟩ | ⟨qn, qx, qs, qm, qo, qb, qi⟩
  · rw [qn]
    have kb : ¬ a.kind = 1 := by simpa using qb
    have t1 := hok.n0 qn
    try simp (maxDischargeDepth := 8) [↓sC, sB, sM, m2, z2, k3, t1, b120]
    refine (fieldK_spec).call ?_
    rintro _ w3 ⟨rfl, f3⟩
    have m3 : mm w3 (sz w) = acV a (.slice la a.make.list.length c) := by rw [f3.mm (by omega) (by simp), m2]
    have z3 : mm w3 (sz w + 1) = kindV (wordF a.kind, onF a.kind, hasF a.kind) := by rw [f3.mm s2 (by simp), z2]
    have g3 := g2.trans0 f3
    have s3 := f3.lt s2
    rw [qx]
    try simp (maxDischargeDepth := 8) [↓sC, sB, sM, m3, z3, k3]
    refine (same_spec ha.2.2.2 (b := 0) (by unfold H63; omega)).call ?_
    rintro _ w4 ⟨rfl, f4⟩
    have m4 : mm w4 (sz w) = acV a (.slice la a.make.list.length c) := by rw [f4.mm (by omega) (by simp), m3]
    have z4 : mm w4 (sz w + 1) = kindV (wordF a.kind, onF a.kind, hasF a.kind) := by rw [f4.mm s3 (by simp), z3]
    have g4 := g3.trans0 f4
    have s4 := f4.lt s3
    rw [decide_eq_true (hok.x0 qx)]
    try simp (maxDischargeDepth := 8) [↓sC, sB, sM, m4, z4, k3, b115]
    refine (fieldK_spec).call ?_
    rintro _ w5 ⟨rfl, f5⟩
    have m5 : mm w5 (sz w) = acV a (.slice la a.make.list.length c) := by rw [f5.mm (by omega) (by simp), m4]
    have z5 : mm w5 (sz w + 1) = kindV (wordF a.kind, onF a.kind, hasF a.kind) := by rw [f5.mm s4 (by simp), z4]
    have g5 := g4.trans0 f5
    have s5 := f5.lt s4
    rw [qs]
    have t3 := hok.s0 qs
    try simp (maxDischargeDepth := 8) [↓sC, sB, sM, m5, z5, k3, hne, t3, b109]
    refine (fieldK_spec).call ?_
    rintro _ w6 ⟨rfl, f6⟩
    have m6 : mm w6 (sz w) = acV a (.slice la a.make.list.length c) := by rw [f6.mm (by omega) (by simp), m5]
    have z6 : mm w6 (sz w + 1) = kindV (wordF a.kind, onF a.kind, hasF a.kind) := by rw [f6.mm s5 (by simp), z5]
    have g6 := g5.trans0 f6
    have s6 := f6.lt s5
    rw [qm]
    try simp (maxDischargeDepth := 8) [↓sC, sB, sM, m6, z6, k3, am5, bf25_zero, -bf25]
    refine (recSame_spec (r' := rz) (a' := none) (c' := 0) (ha.1.fr0 g6) isRec_rz (zeroR_same (hok.make0 kb)) (by omega)).call ?_
    rintro _ w9 ⟨rfl, f9⟩
    try simp (maxDischargeDepth := 8) [↓sC, sB, sM]
    exact g6.trans0 f9
  · rw [qn]
    have kb : a.kind = 1 := by simpa using qb
    have t1 := hok.n0 qn
    try simp (maxDischargeDepth := 8) [↓sC, sB, sM, m2, z2, k3, t1, b120]
    refine (fieldK_spec).call ?_
    rintro _ w3 ⟨rfl, f3⟩
    have m3 : mm w3 (sz w) = acV a (.slice la a.make.list.length c) := by rw [f3.mm (by omega) (by simp), m2]
    have z3 : mm w3 (sz w + 1) = kindV (wordF a.kind, onF a.kind, hasF a.kind) := by rw [f3.mm s2 (by simp), z2]
    have g3 := g2.trans0 f3
    have s3 := f3.lt s2
    rw [qx]
    try simp (maxDischargeDepth := 8) [↓sC, sB, sM, m3, z3, k3]
    refine (same_spec ha.2.2.2 (b := 0) (by unfold H63; omega)).call ?_
    rintro _ w4 ⟨rfl, f4⟩
    have m4 : mm w4 (sz w) = acV a (.slice la a.make.list.length c) := by rw [f4.mm (by omega) (by simp), m3]
    have z4 : mm w4 (sz w + 1) = kindV (wordF a.kind, onF a.kind, hasF a.kind) := by rw [f4.mm s3 (by simp), z3]
    have g4 := g3.trans0 f4
    have s4 := f4.lt s3
    rw [decide_eq_true (hok.x0 qx)]
    try simp (maxDischargeDepth := 8) [↓sC, sB, sM, m4, z4, k3, b115]
    refine (fieldK_spec).call ?_
    rintro _ w5 ⟨rfl, f5⟩
    have m5 : mm w5 (sz w) = acV a (.slice la a.make.list.length c) := by rw [f5.mm (by omega) (by simp), m4]
    have z5 : mm w5 (sz w + 1) = kindV (wordF a.kind, onF a.kind, hasF a.kind) := by rw [f5.mm s4 (by simp), z4]
    have g5 := g4.trans0 f5
    have s5 := f5.lt s4
    rw [qs]
    have t3 := hok.s0 qs
    try simp (maxDischargeDepth := 8) [↓sC, sB, sM, m5, z5, k3, hne, t3, b109]
    refine (fieldK_spec).call ?_
    rintro _ w6 ⟨rfl, f6⟩
    have m6 : mm w6 (sz w) = acV a (.slice la a.make.list.length c) := by rw [f6.mm (by omega) (by simp), m5]
    have z6 : mm w6 (sz w + 1) = kindV (wordF a.kind, onF a.kind, hasF a.kind) := by rw [f6.mm s5 (by simp), z5]
    have g6 := g5.trans0 f6
    have s6 := f6.lt s5
    rw [qm]
    try simp (maxDischargeDepth := 8) [↓sC, sB, sM, m6, z6, k3]
    exact g6
  · rw [qn]
    have kb : ¬ a.kind = 1 := by simpa using qb
    have t1 := hok.n0 qn
    try simp (maxDischargeDepth := 8) [↓sC, sB, sM, m2, z2, k3, t1, b120]
    refine (fieldK_spec).call ?_
    rintro _ w3 ⟨rfl, f3⟩
    have m3 : mm w3 (sz w) = acV a (.slice la a.make.list.length c) := by rw [f3.mm (by omega) (by simp), m2]
    have z3 : mm w3 (sz w + 1) = kindV (wordF a.kind, onF a.kind, hasF a.kind) := by rw [f3.mm s2 (by simp), z2]
    have g3 := g2.trans0 f3
    have s3 := f3.lt s2
    rw [qx]
    try simp (maxDischargeDepth := 8) [↓sC, sB, sM, m3, z3, k3]
    refine (same_spec ha.2.2.2 (b := 0) (by unfold H63; omega)).call ?_
    rintro _ w4 ⟨rfl, f4⟩
    have m4 : mm w4 (sz w) = acV a (.slice la a.make.list.length c) := by rw [f4.mm (by omega) (by simp), m3]
    have z4 : mm w4 (sz w + 1) = kindV (wordF a.kind, onF a.kind, hasF a.kind) := by rw [f4.mm s3 (by simp), z3]
    have g4 := g3.trans0 f4
    have s4 := f4.lt s3
    rw [decide_eq_true (hok.x0 qx)]
    try simp (maxDischargeDepth := 8) [↓sC, sB, sM, m4, z4, k3, b115]
    refine (fieldK_spec).call ?_
    rintro _ w5 ⟨rfl, f5⟩
    have m5 : mm w5 (sz w) = acV a (.slice la a.make.list.length c) := by rw [f5.mm (by omega) (by simp), m4]
    have z5 : mm w5 (sz w + 1) = kindV (wordF a.kind, onF a.kind, hasF a.kind) := by rw [f5.mm s4 (by simp), z4]
    have g5 := g4.trans0 f5
    have s5 := f5.lt s4
    rw [qs]
    try simp (maxDischargeDepth := 8) [↓sC, sB, sM, m5, z5, k3, hne, b109]
    refine (fieldK_spec).call ?_
    rintro _ w6 ⟨rfl, f6⟩
    have m6 : mm w6 (sz w) = acV a (.slice la a.make.list.length c) := by rw [f6.mm (by omega) (by simp), m5]
    have z6 : mm w6 (sz w + 1) = kindV (wordF a.kind, onF a.kind, hasF a.kind) := by rw [f6.mm s5 (by simp), z5]
    have g6 := g5.trans0 f6
    have s6 := f6.lt s5
    rw [qm]
    try simp (maxDischargeDepth := 8) [↓sC, sB, sM, m6, z6, k3, am5, bf25_zero, -bf25]
    refine (recSame_spec (r' := rz) (a' := none) (c' := 0) (ha.1.fr0 g6) isRec_rz (zeroR_same (hok.make0 kb)) (by omega)).call ?_
    rintro _ w9 ⟨rfl, f9⟩
    try simp (maxDischargeDepth := 8) [↓sC, sB, sM]
    exact g6.trans0 f9
  · rw [qn]
    have kb : ¬ a.kind = 1 := by simpa using qb
    try simp (maxDischargeDepth := 8) [↓sC, sB, sM, m2, z2, k3, b120]
    refine (fieldK_spec).call ?_
    rintro _ w3 ⟨rfl, f3⟩
    have m3 : mm w3 (sz w) = acV a (.slice la a.make.list.length c) := by rw [f3.mm (by omega) (by simp), m2]
    have z3 : mm w3 (sz w + 1) = kindV (wordF a.kind, onF a.kind, hasF a.kind) := by rw [f3.mm s2 (by simp), z2]
    have g3 := g2.trans0 f3
    have s3 := f3.lt s2
    rw [qx]
    try simp (maxDischargeDepth := 8) [↓sC, sB, sM, m3, z3, k3]
    refine (same_spec ha.2.2.2 (b := 0) (by unfold H63; omega)).call ?_
    rintro _ w4 ⟨rfl, f4⟩
    have m4 : mm w4 (sz w) = acV a (.slice la a.make.list.length c) := by rw [f4.mm (by omega) (by simp), m3]
    have z4 : mm w4 (sz w + 1) = kindV (wordF a.kind, onF a.kind, hasF a.kind) := by rw [f4.mm s3 (by simp), z3]
    have g4 := g3.trans0 f4
    have s4 := f4.lt s3
    rw [decide_eq_true (hok.x0 qx)]
    try simp (maxDischargeDepth := 8) [↓sC, sB, sM, m4, z4, k3, b115]
    refine (fieldK_spec).call ?_
    rintro _ w5 ⟨rfl, f5⟩
    have m5 : mm w5 (sz w) = acV a (.slice la a.make.list.length c) := by rw [f5.mm (by omega) (by simp), m4]
    have z5 : mm w5 (sz w + 1) = kindV (wordF a.kind, onF a.kind, hasF a.kind) := by rw [f5.mm s4 (by simp), z4]
    have g5 := g4.trans0 f5
    have s5 := f5.lt s4
    rw [qs]
    have t3 := hok.s0 qs
    try simp (maxDischargeDepth := 8) [↓sC, sB, sM, m5, z5, k3, hne, t3, b109]
    refine (fieldK_spec).call ?_
    rintro _ w6 ⟨rfl, f6⟩
    have m6 : mm w6 (sz w) = acV a (.slice la a.make.list.length c) := by rw [f6.mm (by omega) (by simp), m5]
    have z6 : mm w6 (sz w + 1) = kindV (wordF a.kind, onF a.kind, hasF a.kind) := by rw [f6.mm s5 (by simp), z5]
    have g6 := g5.trans0 f6
    have s6 := f6.lt s5
    rw [qm]
    try simp (maxDischargeDepth := 8) [↓sC, sB, sM, m6, z6, k3, am5, bf25_zero, -bf25]
    refine (recSame_spec (r' := rz) (a' := none) (c' := 0) (ha.1.fr0 g6) isRec_rz (zeroR_same (hok.make0 kb)) (by omega)).call ?_
    rintro _ w9 ⟨rfl, f9⟩
    try simp (maxDischargeDepth := 8) [↓sC, sB, sM]
    exact g6.trans0 f9
  · rw [qn]
    have kb : ¬ a.kind = 1 := by simpa using qb
    try simp (maxDischargeDepth := 8) [↓sC, sB, sM, m2, z2, k3, b120]
    refine (fieldK_spec).call ?_
    rintro _ w3 ⟨rfl, f3⟩
    have m3 : mm w3 (sz w) = acV a (.slice la a.make.list.length c) := by rw [f3.mm (by omega) (by simp), m2]
    have z3 : mm w3 (sz w + 1) = kindV (wordF a.kind, onF a.kind, hasF a.kind) := by rw [f3.mm s2 (by simp), z2]
    have g3 := g2.trans0 f3
    have s3 := f3.lt s2
    rw [qx]
    try simp (maxDischargeDepth := 8) [↓sC, sB, sM, m3, z3, k3]
    refine (same_spec ha.2.2.2 (b := 0) (by unfold H63; omega)).call ?_
    rintro _ w4 ⟨rfl, f4⟩
    have m4 : mm w4 (sz w) = acV a (.slice la a.make.list.length c) := by rw [f4.mm (by omega) (by simp), m3]
    have z4 : mm w4 (sz w + 1) = kindV (wordF a.kind, onF a.kind, hasF a.kind) := by rw [f4.mm s3 (by simp), z3]
    have g4 := g3.trans0 f4
    have s4 := f4.lt s3
    rw [decide_eq_true (hok.x0 qx)]
    try simp (maxDischargeDepth := 8) [↓sC, sB, sM, m4, z4, k3, b115]
    refine (fieldK_spec).call ?_
    rintro _ w5 ⟨rfl, f5⟩
    have m5 : mm w5 (sz w) = acV a (.slice la a.make.list.length c) := by rw [f5.mm (by omega) (by simp), m4]
    have z5 : mm w5 (sz w + 1) = kindV (wordF a.kind, onF a.kind, hasF a.kind) := by rw [f5.mm s4 (by simp), z4]
    have g5 := g4.trans0 f5
    have s5 := f5.lt s4
    rw [qs]
    have t3 := hok.s0 qs
    try simp (maxDischargeDepth := 8) [↓sC, sB, sM, m5, z5, k3, hne, t3, b109]
    refine (fieldK_spec).call ?_
    rintro _ w6 ⟨rfl, f6⟩
    have m6 : mm w6 (sz w) = acV a (.slice la a.make.list.length c) := by rw [f6.mm (by omega) (by simp), m5]
    have z6 : mm w6 (sz w + 1) = kindV (wordF a.kind, onF a.kind, hasF a.kind) := by rw [f6.mm s5 (by simp), z5]
    have g6 := g5.trans0 f6
    have s6 := f6.lt s5
    rw [qm]
    try simp (maxDischargeDepth := 8) [↓sC, sB, sM, m6, z6, k3, am5, bf25_zero, -bf25]
    refine (recSame_spec (r' := rz) (a' := none) (c' := 0) (ha.1.fr0 g6) isRec_rz (zeroR_same (hok.make0 kb)) (by omega)).call ?_
    rintro _ w9 ⟨rfl, f9⟩
    try simp (maxDischargeDepth := 8) [↓sC, sB, sM]
    exact g6.trans0 f9
  · rw [qn]
    have kb : ¬ a.kind = 1 := by simpa using qb
    have t1 := hok.n0 qn
    try simp (maxDischargeDepth := 8) [↓sC, sB, sM, m2, z2, k3, t1, b120]
    refine (fieldK_spec).call ?_
    rintro _ w3 ⟨rfl, f3⟩
    have m3 : mm w3 (sz w) = acV a (.slice la a.make.list.length c) := by rw [f3.mm (by omega) (by simp), m2]
    have z3 : mm w3 (sz w + 1) = kindV (wordF a.kind, onF a.kind, hasF a.kind) := by rw [f3.mm s2 (by simp), z2]
    have g3 := g2.trans0 f3
    have s3 := f3.lt s2
    rw [qx]
    try simp (maxDischargeDepth := 8) [↓sC, sB, sM, m3, z3, k3, b115]
    refine (fieldK_spec).call ?_
    rintro _ w4 ⟨rfl, f4⟩
    have m4 : mm w4 (sz w) = acV a (.slice la a.make.list.length c) := by rw [f4.mm (by omega) (by simp), m3]
    have z4 : mm w4 (sz w + 1) = kindV (wordF a.kind, onF a.kind, hasF a.kind) := by rw [f4.mm s3 (by simp), z3]
    have g4 := g3.trans0 f4
    have s4 := f4.lt s3
    rw [qs]
    have t3 := hok.s0 qs
    try simp (maxDischargeDepth := 8) [↓sC, sB, sM, m4, z4, k3, hne, t3, b109]
    refine (fieldK_spec).call ?_
    rintro _ w5 ⟨rfl, f5⟩
    have m5 : mm w5 (sz w) = acV a (.slice la a.make.list.length c) := by rw [f5.mm (by omega) (by simp), m4]
    have z5 : mm w5 (sz w + 1) = kindV (wordF a.kind, onF a.kind, hasF a.kind) := by rw [f5.mm s4 (by simp), z4]
    have g5 := g4.trans0 f5
    have s5 := f5.lt s4
    rw [qm]
    try simp (maxDischargeDepth := 8) [↓sC, sB, sM, m5, z5, k3, am5, bf25_zero, -bf25]
    refine (recSame_spec (r' := rz) (a' := none) (c' := 0) (ha.1.fr0 g5) isRec_rz (zeroR_same (hok.make0 kb)) (by omega)).call ?_
    rintro _ w9 ⟨rfl, f9⟩
    try simp (maxDischargeDepth := 8) [↓sC, sB, sM]
    exact g5.trans0 f9
  · rw [qn]
    have kb : ¬ a.kind = 1 := by simpa using qb
    have t1 := hok.n0 qn
    try simp (maxDischargeDepth := 8) [↓sC, sB, sM, m2, z2, k3, t1, b120]
    refine (fieldK_spec).call ?_
    rintro _ w3 ⟨rfl, f3⟩
    have m3 : mm w3 (sz w) = acV a (.slice la a.make.list.length c) := by rw [f3.mm (by omega) (by simp), m2]
    have z3 : mm w3 (sz w + 1) = kindV (wordF a.kind, onF a.kind, hasF a.kind) := by rw [f3.mm s2 (by simp), z2]
    have g3 := g2.trans0 f3
    have s3 := f3.lt s2
    rw [qx]
    try simp (maxDischargeDepth := 8) [↓sC, sB, sM, m3, z3, k3]
    refine (same_spec ha.2.2.2 (b := 0) (by unfold H63; omega)).call ?_
    rintro _ w4 ⟨rfl, f4⟩
    have m4 : mm w4 (sz w) = acV a (.slice la a.make.list.length c) := by rw [f4.mm (by omega) (by simp), m3]
    have z4 : mm w4 (sz w + 1) = kindV (wordF a.kind, onF a.kind, hasF a.kind) := by rw [f4.mm s3 (by simp), z3]
    have g4 := g3.trans0 f4
    have s4 := f4.lt s3
    rw [decide_eq_true (hok.x0 qx)]
    try simp (maxDischargeDepth := 8) [↓sC, sB, sM, m4, z4, k3, b115]
    refine (fieldK_spec).call ?_
    rintro _ w5 ⟨rfl, f5⟩
    have m5 : mm w5 (sz w) = acV a (.slice la a.make.list.length c) := by rw [f5.mm (by omega) (by simp), m4]
    have z5 : mm w5 (sz w + 1) = kindV (wordF a.kind, onF a.kind, hasF a.kind) := by rw [f5.mm s4 (by simp), z4]
    have g5 := g4.trans0 f5
    have s5 := f5.lt s4
    rw [qs]
    try simp (maxDischargeDepth := 8) [↓sC, sB, sM, m5, z5, k3, hne, b109]
    refine (fieldK_spec).call ?_
    rintro _ w6 ⟨rfl, f6⟩
    have m6 : mm w6 (sz w) = acV a (.slice la a.make.list.length c) := by rw [f6.mm (by omega) (by simp), m5]
    have z6 : mm w6 (sz w + 1) = kindV (wordF a.kind, onF a.kind, hasF a.kind) := by rw [f6.mm s5 (by simp), z5]
    have g6 := g5.trans0 f6
    have s6 := f6.lt s5
    rw [qm]
    try simp (maxDischargeDepth := 8) [↓sC, sB, sM, m6, z6, k3, am5, bf25_zero, -bf25]
    refine (recSame_spec (r' := rz) (a' := none) (c' := 0) (ha.1.fr0 g6) isRec_rz (zeroR_same (hok.make0 kb)) (by omega)).call ?_
    rintro _ w9 ⟨rfl, f9⟩
    try simp (maxDischargeDepth := 8) [↓sC, sB, sM]
    exact g6.trans0 f9
  · rw [qn]
    have kb : ¬ a.kind = 1 := by simpa using qb
    have t1 := hok.n0 qn
    try simp (maxDischargeDepth := 8) [↓sC, sB, sM, m2, z2, k3, t1, b120]
    refine (fieldK_spec).call ?_
    rintro _ w3 ⟨rfl, f3⟩
    have m3 : mm w3 (sz w) = acV a (.slice la a.make.list.length c) := by rw [f3.mm (by omega) (by simp), m2]
    have z3 : mm w3 (sz w + 1) = kindV (wordF a.kind, onF a.kind, hasF a.kind) := by rw [f3.mm s2 (by simp), z2]
    have g3 := g2.trans0 f3
    have s3 := f3.lt s2
    rw [qx]
    try simp (maxDischargeDepth := 8) [↓sC, sB, sM, m3, z3, k3, b115]
    refine (fieldK_spec).call ?_
    rintro _ w4 ⟨rfl, f4⟩
    have m4 : mm w4 (sz w) = acV a (.slice la a.make.list.length c) := by rw [f4.mm (by omega) (by simp), m3]
    have z4 : mm w4 (sz w + 1) = kindV (wordF a.kind, onF a.kind, hasF a.kind) := by rw [f4.mm s3 (by simp), z3]
    have g4 := g3.trans0 f4
    have s4 := f4.lt s3
    rw [qs]
    try simp (maxDischargeDepth := 8) [↓sC, sB, sM, m4, z4, k3, hne, b109]
    refine (fieldK_spec).call ?_
    rintro _ w5 ⟨rfl, f5⟩
    have m5 : mm w5 (sz w) = acV a (.slice la a.make.list.length c) := by rw [f5.mm (by omega) (by simp), m4]
    have z5 : mm w5 (sz w + 1) = kindV (wordF a.kind, onF a.kind, hasF a.kind) := by rw [f5.mm s4 (by simp), z4]
    have g5 := g4.trans0 f5
    have s5 := f5.lt s4
    rw [qm]
    try simp (maxDischargeDepth := 8) [↓sC, sB, sM, m5, z5, k3, am5, bf25_zero, -bf25]
    refine (recSame_spec (r' := rz) (a' := none) (c' := 0) (ha.1.fr0 g5) isRec_rz (zeroR_same (hok.make0 kb)) (by omega)).call ?_
    rintro _ w9 ⟨rfl, f9⟩
    try simp (maxDischargeDepth := 8) [↓sC, sB, sM]
    exact g5.trans0 f9
theorem make_len {a : ActP} (hok : ActOk a) : a.make.list.length ≤ 32 := by
  by_cases h : a.kind = 1
  · have hm := hok.make1 h
    by_cases h8 : 8 ≤ a.make.kind
    · obtain ⟨_, q2, q3, _⟩ := hm.cap h8; omega
    · have h1 := hm.k1
      rcases five_kinds hm.k1 hm.k9 hm.only with ⟨_, _, _, _, _, _, _, h⟩ | ⟨_, _, _, _, _, _, _, h⟩ | ⟨_, _, _, _, _, h⟩ | ⟨_, _, _, _, _, _, _, h⟩ | ⟨h, _⟩
      all_goals first | (rw [h]; simp) | omega
  · have := (hok.make0 h).2.2.2.2.2.2.2
    rw [this]; simp
set_option maxHeartbeats 4000000 in
set_option maxRecDepth 20000 in
theorem checkA_spec {w : World} {a : ActP} {la : Option Addr} {c : Nat} (hw : KW w) (ha : IsAct w (.slice la a.make.list.length c) a) (hok : ActOk a) :
    Ret P 23 #[.agg (acV a (.slice la a.make.list.length c)).toArray] w fun v w' => v = i64 0 ∧ Fr [] w w' := by
  refine F23ok ?_
  unfold F23
  obtain ⟨W, hW⟩ : ∃ W, W = nw w (acV a (.slice la a.make.list.length c)) 27 := ⟨_, rfl⟩
  have fW : Fr [] w W := by rw [hW]; exact (Fr.refl [] w).nw _ _
  have hm : mm W (sz w) = acV a (.slice la a.make.list.length c) := by rw [hW]; simp [mm_nw]
  have hsW : sz w < sz W := by rw [hW, sz_nw]; omega
  have hlen : ∀ l w, pBuiltin P .len #[9] 3 [strB l] w = some (i64 l.length, w) := fun l w => len_strB und9
  have hne : ∀ l w, pBin P .eql 9 true (strB l) (Value.string { data := #[] }) w = some (.bool (decide (l = [])), w) := fun l w => eq_strB (m := [])
  have hkf := kindF_ok hok.k1 hok.k21
  have hwd := word_ne hok.k1 hok.k21
  have hky : a.key ≠ [] := fun h => by have := hok.key1; rw [h] at this; simp at this
  have hk24 : ¬ (24 : Int) < a.key.length := by have := hok.key24; omega
  have hml := make_len hok
  try simp (maxDischargeDepth := 8) [↓sC, sB, sM, acC, ← hW, hm]
  refine (of_spec (hw.fr0 fW)).call ?_
  rintro _ w1 ⟨rfl, f1⟩
  rw [hkf]
  have hs3 : ∀ t, ∀ l : List Value, l.length = 3 → splice l 0 (kindV t) = kindV t := fun t l hl => splice_full (by rw [hl]; rfl)
  obtain ⟨W2, hW2⟩ : ∃ W2, W2 = wr (nw w1 [Value.string ByteArray.empty, Value.int IntKind.i64 0, Value.string ByteArray.empty] 97) (sz w1) (kindV (wordF a.kind, onF a.kind, hasF a.kind)) := ⟨_, rfl⟩
  have fW2 : Fr [] w1 W2 := by rw [hW2]; exact ((Fr.refl [] w1).nw _ _).wr (.inr (Nat.le_refl _)) _
  have m2 : mm W2 (sz w) = acV a (.slice la a.make.list.length c) := by rw [fW2.mm (f1.lt hsW) (by simp), f1.mm hsW (by simp), hm]
  have z2 : mm W2 (sz w1) = kindV (wordF a.kind, onF a.kind, hasF a.kind) := by rw [hW2]; exact mm_wr_same (by simp [fz_nw]) _
  have s2 : sz w1 < sz W2 := by rw [hW2, sz_wr, sz_nw]; omega
  have p2 : sz w < sz W2 := by have := f1.lt hsW; omega
  have g2 := (fW.trans0 f1).trans0 fW2
  try simp (maxDischargeDepth := 8) [↓sC, sB, sM, hs3, kindV_oneT, ← hW2, m2, z2, hne, hwd, hky, hk24, hlen, a14, k3]
  refine (bareA_spec (ha.fr0 g2) hok (by omega)).call ?_
  rintro _ w3 ⟨rfl, f3⟩
  have m3 : mm w3 (sz w) = acV a (.slice la a.make.list.length c) := by rw [f3.mm p2 (by simp), m2]
  have z3 : mm w3 (sz w1) = kindV (wordF a.kind, onF a.kind, hasF a.kind) := by rw [f3.mm s2 (by simp), z2]
  have g3 := g2.trans0 f3
  have s3 := f3.lt s2
  have p3 := f3.lt p2
  try simp (maxDischargeDepth := 8) [↓sC, sB, sM, m3, z3, hlen, k3]
  refine (most_spec (t := (wordF a.kind, onF a.kind, hasF a.kind))).call ?_
  rintro _ w4 ⟨rfl, f4⟩
  have m4 : mm w4 (sz w) = acV a (.slice la a.make.list.length c) := by rw [f4.mm (by rw [sz_drew]; exact p3) (by simp), mm_drew, m3]
  have g4 := g3.drew.trans0 f4
  have p4 : sz w < sz w4 := f4.lt (by rw [sz_drew]; exact p3)
  have hs64 := hok.s64
  have hs16 := hok.s16
  have hreal := hok.real
  have ko1 : ¬ onF 1 = 1 := by decide
  have ko10 : ¬ onF 10 = 1 := by decide
  have ko11 : ¬ onF 11 = 1 := by decide
  have hfin : ∀ (b : Bool), True := fun _ => trivial
  rcases classes hok.k1 hok.k21 with ⟨qn, qx, qs, qm, qo, qb, qi⟩ | ⟨qn, qx, qs, qm, qo, qb, qi⟩ | ⟨qn, qx, qs, qm, qo, qb, qi⟩ | ⟨qn, qx, qs, qm, qo, qb, qi⟩ | ⟨qn, qx, qs, qm, qo, qb, qi⟩ | ⟨qn, qx, qs, qm, qo, qb, qi⟩ | ⟨qn, qx, qs, qm, qo, qb, qi⟩ | ⟨qn, qx, qs, qm, qo, qb, qi⟩
  · have ko : ¬ onF a.kind = 1 := by simpa using qo
    have kb : ¬ a.kind = 1 := by simpa using qb
    have t4i : ¬ (16 : Int) < a.s.length := by have := hs16 ko; omega
    have ki : ¬ (a.kind = 10 ∨ a.kind = 11) := by simpa using qi
    have ki1 : ¬ a.kind = 10 := fun h => ki (.inl h)
    have ki2 : ¬ a.kind = 11 := fun h => ki (.inr h)
    try simp (maxDischargeDepth := 8) [↓sC, sB, sM, m4, hlen, ko, t4i, ki1, ki2]
    refine (proper_spec ha.2.2.2).call ?_
    rintro _ w5 ⟨rfl, f5⟩
    have m5 : mm w5 (sz w) = acV a (.slice la a.make.list.length c) := by rw [f5.mm p4 (by simp), m4]
    have g5 := g4.trans0 f5
    rw [decide_eq_true hreal]
    try simp (maxDischargeDepth := 8) [↓sC, sB, sM, m5, kb]
    exact g5
  · have ko : ¬ onF a.kind = 1 := by simpa using qo
    have kb : a.kind = 1 := by simpa using qb
    have t4i : ¬ (16 : Int) < a.s.length := by have := hs16 ko; omega
    have ki : ¬ (a.kind = 10 ∨ a.kind = 11) := by simpa using qi
    have ki1 : ¬ a.kind = 10 := fun h => ki (.inl h)
    have ki2 : ¬ a.kind = 11 := fun h => ki (.inr h)
    try simp (maxDischargeDepth := 8) [↓sC, sB, sM, m4, hlen, ko, t4i, ki1, ki2]
    refine (proper_spec ha.2.2.2).call ?_
    rintro _ w5 ⟨rfl, f5⟩
    have m5 : mm w5 (sz w) = acV a (.slice la a.make.list.length c) := by rw [f5.mm p4 (by simp), m4]
    have g5 := g4.trans0 f5
    rw [decide_eq_true hreal]
    try simp (maxDischargeDepth := 8) [↓sC, sB, sM, m5, kb, am5]
    refine (recCheck_spec (ha.1.fr0 g5) (hok.make1 kb)).call ?_
    rintro _ w6 ⟨rfl, f6⟩
    try simp (maxDischargeDepth := 8) [↓sC, sB, sM]
    exact g5.trans0 f6
  · have ko : onF a.kind = 1 := by simpa using qo
    have kb : ¬ a.kind = 1 := by simpa using qb
    have t4i : ¬ (64 : Int) < a.s.length := by have := hs64 ko; omega
    have ki : ¬ (a.kind = 10 ∨ a.kind = 11) := by simpa using qi
    have ki1 : ¬ a.kind = 10 := fun h => ki (.inl h)
    have ki2 : ¬ a.kind = 11 := fun h => ki (.inr h)
    try simp (maxDischargeDepth := 8) [↓sC, sB, sM, m4, hlen, ko, t4i, ki1, ki2]
    refine (proper_spec ha.2.2.2).call ?_
    rintro _ w5 ⟨rfl, f5⟩
    have m5 : mm w5 (sz w) = acV a (.slice la a.make.list.length c) := by rw [f5.mm p4 (by simp), m4]
    have g5 := g4.trans0 f5
    rw [decide_eq_true hreal]
    try simp (maxDischargeDepth := 8) [↓sC, sB, sM, m5, kb]
    exact g5
  · have ko : ¬ onF a.kind = 1 := by simpa using qo
    have kb : ¬ a.kind = 1 := by simpa using qb
    have t4i : ¬ (16 : Int) < a.s.length := by have := hs16 ko; omega
    have ki : ¬ (a.kind = 10 ∨ a.kind = 11) := by simpa using qi
    have ki1 : ¬ a.kind = 10 := fun h => ki (.inl h)
    have ki2 : ¬ a.kind = 11 := fun h => ki (.inr h)
    try simp (maxDischargeDepth := 8) [↓sC, sB, sM, m4, hlen, ko, t4i, ki1, ki2]
    refine (proper_spec ha.2.2.2).call ?_
    rintro _ w5 ⟨rfl, f5⟩
    have m5 : mm w5 (sz w) = acV a (.slice la a.make.list.length c) := by rw [f5.mm p4 (by simp), m4]
    have g5 := g4.trans0 f5
    rw [decide_eq_true hreal]
    try simp (maxDischargeDepth := 8) [↓sC, sB, sM, m5, kb]
    exact g5
  · have ko : ¬ onF a.kind = 1 := by simpa using qo
    have kb : ¬ a.kind = 1 := by simpa using qb
    have t4i : ¬ (16 : Int) < a.s.length := by have := hs16 ko; omega
    have ki : a.kind = 10 ∨ a.kind = 11 := by simpa using qi
    obtain ⟨t5, t6⟩ := hok.amount ki
    have t5i : ¬ a.n < 0 := by omega
    have t6i : ¬ 2305843009213693952 < a.n := by unfold MP at t6; omega
    refine ki.elim (fun ki => ?_) (fun ki => ?_)
    · try simp (maxDischargeDepth := 8) [↓sC, sB, sM, m4, hlen, ko, t4i, ki, t5i, t6i, ko10, ko11]
      refine (proper_spec ha.2.2.2).call ?_
      rintro _ w5 ⟨rfl, f5⟩
      have m5 : mm w5 (sz w) = acV a (.slice la a.make.list.length c) := by rw [f5.mm p4 (by simp), m4]
      have g5 := g4.trans0 f5
      rw [decide_eq_true hreal]
      try simp (maxDischargeDepth := 8) [↓sC, sB, sM, m5, kb]
      exact g5
    · try simp (maxDischargeDepth := 8) [↓sC, sB, sM, m4, hlen, ko, t4i, ki, t5i, t6i, ko10, ko11]
      refine (proper_spec ha.2.2.2).call ?_
      rintro _ w5 ⟨rfl, f5⟩
      have m5 : mm w5 (sz w) = acV a (.slice la a.make.list.length c) := by rw [f5.mm p4 (by simp), m4]
      have g5 := g4.trans0 f5
      rw [decide_eq_true hreal]
      try simp (maxDischargeDepth := 8) [↓sC, sB, sM, m5, kb]
      exact g5
  · have ko : ¬ onF a.kind = 1 := by simpa using qo
    have kb : ¬ a.kind = 1 := by simpa using qb
    have t4i : ¬ (16 : Int) < a.s.length := by have := hs16 ko; omega
    have ki : ¬ (a.kind = 10 ∨ a.kind = 11) := by simpa using qi
    have ki1 : ¬ a.kind = 10 := fun h => ki (.inl h)
    have ki2 : ¬ a.kind = 11 := fun h => ki (.inr h)
    try simp (maxDischargeDepth := 8) [↓sC, sB, sM, m4, hlen, ko, t4i, ki1, ki2]
    refine (proper_spec ha.2.2.2).call ?_
    rintro _ w5 ⟨rfl, f5⟩
    have m5 : mm w5 (sz w) = acV a (.slice la a.make.list.length c) := by rw [f5.mm p4 (by simp), m4]
    have g5 := g4.trans0 f5
    rw [decide_eq_true hreal]
    try simp (maxDischargeDepth := 8) [↓sC, sB, sM, m5, kb]
    exact g5
  · have ko : ¬ onF a.kind = 1 := by simpa using qo
    have kb : ¬ a.kind = 1 := by simpa using qb
    have t4i : ¬ (16 : Int) < a.s.length := by have := hs16 ko; omega
    have ki : ¬ (a.kind = 10 ∨ a.kind = 11) := by simpa using qi
    have ki1 : ¬ a.kind = 10 := fun h => ki (.inl h)
    have ki2 : ¬ a.kind = 11 := fun h => ki (.inr h)
    try simp (maxDischargeDepth := 8) [↓sC, sB, sM, m4, hlen, ko, t4i, ki1, ki2]
    refine (proper_spec ha.2.2.2).call ?_
    rintro _ w5 ⟨rfl, f5⟩
    have m5 : mm w5 (sz w) = acV a (.slice la a.make.list.length c) := by rw [f5.mm p4 (by simp), m4]
    have g5 := g4.trans0 f5
    rw [decide_eq_true hreal]
    try simp (maxDischargeDepth := 8) [↓sC, sB, sM, m5, kb]
    exact g5
  · have ko : ¬ onF a.kind = 1 := by simpa using qo
    have kb : ¬ a.kind = 1 := by simpa using qb
    have t4i : ¬ (16 : Int) < a.s.length := by have := hs16 ko; omega
    have ki : ¬ (a.kind = 10 ∨ a.kind = 11) := by simpa using qi
    have ki1 : ¬ a.kind = 10 := fun h => ki (.inl h)
    have ki2 : ¬ a.kind = 11 := fun h => ki (.inr h)
    try simp (maxDischargeDepth := 8) [↓sC, sB, sM, m4, hlen, ko, t4i, ki1, ki2]
    refine (proper_spec ha.2.2.2).call ?_
    rintro _ w5 ⟨rfl, f5⟩
    have m5 : mm w5 (sz w) = acV a (.slice la a.make.list.length c) := by rw [f5.mm p4 (by simp), m4]
    have g5 := g4.trans0 f5
    rw [decide_eq_true hreal]
    try simp (maxDischargeDepth := 8) [↓sC, sB, sM, m5, kb]
    exact g5
end Go.Proofs.YtieejbkbdfccdaaDoor
