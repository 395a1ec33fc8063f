/- Acts, as the document checks them. -/
import Derived.Test.YtieejbkbdfccdaaDoorSim
import Derived.Test.YtieejbkbdfccdaaDoorR9
set_option linter.unusedVariables false
set_option linter.unusedSimpArgs false
namespace Go.Proofs.YtieejbkbdfccdaaDoor
open Go

structure ActP where
  kind : Int
  key : List UInt8
  n : Int
  x : Nat
  s : List UInt8
  make : RecP
  must : Bool
def acV (a : ActP) (lv : Value) : List Value := [i64 a.kind, strB a.key, i64 a.n, fl a.x, strB a.s] ++ rcV a.make lv ++ [.bool a.must]
def okA (a : ActP) : Prop := in64 a.kind ∧ in64 a.n ∧ a.x < 2 * H63
def IsAct (w : World) (lv : Value) (a : ActP) : Prop := IsRec w lv a.make ∧ okA a
theorem IsAct.fr0 {w w' : World} {lv : Value} {a : ActP} (h : IsAct w lv a) (hf : Fr [] w w') : IsAct w' lv a := ⟨h.1.fr0 hf, h.2⟩
@[simp] theorem alen {a : ActP} {lv : Value} : (acV a lv).length = 14 := rfl
@[simp] theorem ag0 {a : ActP} {lv : Value} : gt (acV a lv) 0 = i64 a.kind := rfl
@[simp] theorem ag1 {a : ActP} {lv : Value} : gt (acV a lv) 1 = strB a.key := rfl
@[simp] theorem ag2 {a : ActP} {lv : Value} : gt (acV a lv) 2 = i64 a.n := rfl
@[simp] theorem ag3 {a : ActP} {lv : Value} : gt (acV a lv) 3 = fl a.x := rfl
@[simp] theorem ag4 {a : ActP} {lv : Value} : gt (acV a lv) 4 = strB a.s := rfl
@[simp] theorem ag13 {a : ActP} {lv : Value} : gt (acV a lv) 13 = .bool a.must := rfl
theorem am5 {a : ActP} {lv : Value} : ((acV a lv).drop 5).take 8 = rcV a.make lv := rfl
theorem a14 {a : ActP} {lv : Value} : (acV a lv).take 14 = acV a lv := rfl
theorem acC (a : ActP) (lv : Value) : (Value.agg (acV a lv).toArray).cells.toList = acV a lv := rfl

structure ActOk (a : ActP) : Prop where
  k1 : 1 ≤ a.kind
  k21 : a.kind ≤ 21
  key1 : 1 ≤ a.key.length
  key24 : a.key.length ≤ 24
  n0 : (hasF a.kind).contains 110 = false → a.n = 0
  x0 : (hasF a.kind).contains 120 = false → key a.x = key 0
  s0 : (hasF a.kind).contains 115 = false → a.s = []
  make0 : a.kind ≠ 1 → zeroR a.make
  s64 : onF a.kind = 1 → a.s.length ≤ 64
  s16 : onF a.kind ≠ 1 → a.s.length ≤ 16
  amount : a.kind = 10 ∨ a.kind = 11 → 0 ≤ a.n ∧ a.n ≤ MP
  real : a.x = canon a.x
  make1 : a.kind = 1 → RecOk a.make
/-- Which fields a kind has; for texts; the first kind; in and out. -/
def Cl (k : Int) (n x s m o b i : Bool) : Prop :=
  (hasF k).contains 110 = n ∧ (hasF k).contains 120 = x ∧ (hasF k).contains 115 = s ∧ (hasF k).contains 109 = m ∧ decide (onF k = 1) = o ∧ decide (k = 1) = b ∧ decide (k = 10 ∨ k = 11) = i
theorem classes {k : Int} (h1 : 1 ≤ k) (h2 : k ≤ 21) : Cl k false false false false false false false ∨ Cl k false false false true false true false ∨ Cl k false false true false true false false ∨ Cl k true false false false false false false ∨ Cl k true false false false false false true ∨ Cl k false true false false false false false ∨ Cl k false false true false false false false ∨ Cl k false true true false false false false := by
  have : k = 1 ∨ k = 2 ∨ k = 3 ∨ k = 4 ∨ k = 5 ∨ k = 6 ∨ k = 7 ∨ k = 8 ∨ k = 9 ∨ k = 10 ∨ k = 11 ∨ k = 12 ∨ k = 13 ∨ k = 14 ∨ k = 15 ∨ k = 16 ∨ k = 17 ∨ k = 18 ∨ k = 19 ∨ k = 20 ∨ k = 21 := by omega
  rcases this with rfl | rfl | rfl | rfl | rfl | rfl | rfl | rfl | rfl | rfl | rfl | rfl | rfl | rfl | rfl | rfl | rfl | rfl | rfl | rfl | rfl <;> simp [Cl, hasF, hasL, onF, onL]
set_option maxHeartbeats 4000000 in
set_option maxRecDepth 20000 in
theorem refAct_spec {w : World} {a : ActP} {la : Option Addr} {c : Nat} (ha : IsAct w (.slice la a.make.list.length c) a) :
    Ret P 9 #[.agg (acV a (.slice la a.make.list.length c)).toArray] w fun v w' => ∃ n : Int, v = i64 n ∧ (n = 0 → ActOk a) ∧ Fr [] w w' := by
  refine F9ok ?_
  unfold F9
  obtain ⟨W, hW⟩ : ∃ W, W = nw w (acV a (.slice la a.make.list.length c)) 27 := ⟨_, rfl⟩
  have fW : Fr [] w W := by rw [hW]; exact (Fr.refl [] w).nw _ _
  have hm : mm W (sz w) = acV a (.slice la a.make.list.length c) := by rw [hW]; simp [mm_nw]
  have hsW : sz w < sz W := by rw [hW, sz_nw]; omega
  have hlen : ∀ l w, pBuiltin P .len #[9] 3 [strB l] w = some (i64 l.length, w) := fun l w => len_strB und9
  have hne : ∀ l w, pBin P .neq 9 true (strB l) (Value.string { data := #[] }) w = some (.bool (decide (l ≠ [])), w) := fun l w => ne_strB (m := [])
  have b110 : (Value.int IntKind.u8 110) = bv 110 := rfl
  have b120 : (Value.int IntKind.u8 120) = bv 120 := rfl
  have b115 : (Value.int IntKind.u8 115) = bv 115 := rfl
  have hl0 : rz.list.length = 0 := rfl
  have ko1 : ¬ onF 1 = 1 := by decide
  have ko10 : ¬ onF 10 = 1 := by decide
  have ko11 : ¬ onF 11 = 1 := by decide
  try simp (maxDischargeDepth := 8) [↓sC, sB, sM, acC, ← hW, hm]
  rcases (Decidable.em (1 ≤ a.kind)).symm with a1 | a1
  · have a1i : a.kind < 1 := by omega
    try simp (maxDischargeDepth := 8) [↓sC, sB, sM, a1i]
    exact fW
  have a1i : ¬ a.kind < 1 := by omega
  rcases (Decidable.em (a.kind ≤ 21)).symm with a9 | a9
  · have a9i : 21 < a.kind := by omega
    try simp (maxDischargeDepth := 8) [↓sC, sB, sM, a1i, a9i, hm]
    exact fW
  have a9i : ¬ 21 < a.kind := by omega
  rcases (Decidable.em (1 ≤ a.key.length)).symm with y1 | y1
  · have y1i : (a.key.length : Int) < 1 := by omega
    try simp (maxDischargeDepth := 8) [↓sC, sB, sM, a1i, a9i, hm, hlen, y1i]
    exact fW
  have y1i : ¬ (a.key.length : Int) < 1 := by omega
  rcases (Decidable.em (a.key.length ≤ 24)).symm with y2 | y2
  · have y2i : (24 : Int) < a.key.length := by omega
    try simp (maxDischargeDepth := 8) [↓sC, sB, sM, a1i, a9i, hm, hlen, y1i, y2i]
    exact fW
  have y2i : ¬ (24 : Int) < a.key.length := by omega
  try simp (maxDischargeDepth := 8) [↓sC, sB, sM, a1i, a9i, hm, hlen, y1i, y2i, b110]
  refine has_spec.call ?_
  rintro _ w1 ⟨rfl, f1⟩
  have m1 : mm w1 (sz w) = acV a (.slice la a.make.list.length c) := by rw [f1.mm hsW (by simp), hm]
  have g1 := fW.trans0 f1
  have s1 := f1.lt hsW
  rcases classes a1 a9 with ⟨qn, qx, qs, qm, qo, qb, qi⟩ | ⟨qn, qx, qs, qm, qo, qb, qi⟩ | ⟨qn, qx, qs, qm, qo, qb, qi⟩ | ⟨qn, qx, qs, qm, qo, qb, qi⟩ | ⟨qn, qx, qs, qm, qo, qb, qi⟩ | ⟨qn, qx, qs, qm, qo, qb, qi⟩ | ⟨qn, qx, qs, qm, qo, qb, qi⟩ | ⟨qn, qx, qs, qm, qo, qb, qi⟩
  · rw [qn]
    have ko : ¬ onF a.kind = 1 := by simpa using qo
    have kb : ¬ a.kind = 1 := by simpa using qb
    have ki : ¬ (a.kind = 10 ∨ a.kind = 11) := by simpa using qi
    have ki1 : ¬ a.kind = 10 := fun h => ki (.inl h)
    have ki2 : ¬ a.kind = 11 := fun h => ki (.inr h)
    rcases (Decidable.em (a.n = 0)).symm with t1 | t1
    · try simp (maxDischargeDepth := 8) [↓sC, sB, sM, m1, t1]
      exact g1
    try simp (maxDischargeDepth := 8) [↓sC, sB, sM, m1, t1, b120]
    refine (has_spec).call ?_
    rintro _ w2 ⟨rfl, f2⟩
    have m2 : mm w2 (sz w) = acV a (.slice la a.make.list.length c) := by rw [f2.mm s1 (by simp), m1]
    have g2 := g1.trans0 f2
    have s2 := f2.lt s1
    rw [qx]
    try simp (maxDischargeDepth := 8) [↓sC, sB, sM, m2]
    refine (refSame_spec ha.2.2.2 (b := 0) (by unfold H63; omega)).call ?_
    rintro _ w3 ⟨rfl, f3⟩
    have m3 : mm w3 (sz w) = acV a (.slice la a.make.list.length c) := by rw [f3.mm s2 (by simp), m2]
    have g3 := g2.trans0 f3
    have s3 := f3.lt s2
    rcases (Decidable.em (key a.x = key 0)).symm with t2 | t2
    · try simp (maxDischargeDepth := 8) [↓sC, sB, sM, m3, t2]
      exact g3
    rw [decide_eq_true t2]
    try simp (maxDischargeDepth := 8) [↓sC, sB, sM, m3, b115]
    refine (has_spec).call ?_
    rintro _ w4 ⟨rfl, f4⟩
    have m4 : mm w4 (sz w) = acV a (.slice la a.make.list.length c) := by rw [f4.mm s3 (by simp), m3]
    have g4 := g3.trans0 f4
    have s4 := f4.lt s3
    rw [qs]
    rcases (Decidable.em (a.s = [])).symm with t3 | t3
    · try simp (maxDischargeDepth := 8) [↓sC, sB, sM, m4, hne, t3]
      exact g4
    try simp (maxDischargeDepth := 8) [↓sC, sB, sM, m4, hne, t3, kb, am5, bf25_zero, -bf25]
    refine (refZero_spec (ha.1.fr0 g4)).call ?_
    rintro _ w5 ⟨zb, rfl, hzb, f5⟩
    have m5 : mm w5 (sz w) = acV a (.slice la a.make.list.length c) := by rw [f5.mm s4 (by simp), m4]
    have g5 := g4.trans0 f5
    have s5 := f5.lt s4
    cases zb
    · try simp (maxDischargeDepth := 8) [↓sC, sB, sM, m5]
      exact g5
    have hz := hzb rfl
    try simp (maxDischargeDepth := 8) [↓sC, sB, sM, m5]
    refine (on_spec0).call ?_
    rintro _ w6 ⟨rfl, f6⟩
    have m6 : mm w6 (sz w) = acV a (.slice la a.make.list.length c) := by rw [f6.mm s5 (by simp), m5]
    have g6 := g5.trans0 f6
    have s6 := f6.lt s5
    try simp (maxDischargeDepth := 8) [↓sC, sB, sM, m6, hlen, ko, ko1]
    refine (on_spec0).call ?_
    rintro _ w7 ⟨rfl, f7⟩
    have m7 : mm w7 (sz w) = acV a (.slice la a.make.list.length c) := by rw [f7.mm s6 (by simp), m6]
    have g7 := g6.trans0 f7
    have s7 := f7.lt s6
    rcases (Decidable.em (a.s.length ≤ 16)).symm with t4 | t4
    · have t4i : (16 : Int) < a.s.length := by omega
      try simp (maxDischargeDepth := 8) [↓sC, sB, sM, m7, hlen, ko, t4i, ko1]
      exact g7
    have t4i : ¬ (16 : Int) < a.s.length := by omega
    try simp (maxDischargeDepth := 8) [↓sC, sB, sM, m7, hlen, ko, t4i, ko1, ko10, ko11, ki1, ki2]
    refine (refProper_spec ha.2.2.2).call ?_
    rintro _ w8 ⟨rfl, f8⟩
    have m8 : mm w8 (sz w) = acV a (.slice la a.make.list.length c) := by rw [f8.mm s7 (by simp), m7]
    have g8 := g7.trans0 f8
    have s8 := f8.lt s7
    rcases (Decidable.em (a.x = canon a.x)).symm with p | p
    · try simp (maxDischargeDepth := 8) [↓sC, sB, sM, p]
      exact g8
    rw [decide_eq_true p]
    try simp (maxDischargeDepth := 8) [↓sC, sB, sM, m8, kb]
    exact ⟨⟨a1, a9, y1, y2, fun _ => t1, fun _ => t2, fun _ => t3, fun _ => hz, fun h => absurd h ko, fun _ => t4, fun h => absurd h ki, p, fun h => absurd h kb⟩, g8⟩
  · rw [qn]
    have ko : ¬ onF a.kind = 1 := by simpa using qo
    have kb : a.kind = 1 := by simpa using qb
    have ki : ¬ (a.kind = 10 ∨ a.kind = 11) := by simpa using qi
    have ki1 : ¬ a.kind = 10 := fun h => ki (.inl h)
    have ki2 : ¬ a.kind = 11 := fun h => ki (.inr h)
    rcases (Decidable.em (a.n = 0)).symm with t1 | t1
    · try simp (maxDischargeDepth := 8) [↓sC, sB, sM, m1, t1]
      exact g1
    try simp (maxDischargeDepth := 8) [↓sC, sB, sM, m1, t1, b120]
    refine (has_spec).call ?_
    rintro _ w2 ⟨rfl, f2⟩
    have m2 : mm w2 (sz w) = acV a (.slice la a.make.list.length c) := by rw [f2.mm s1 (by simp), m1]
    have g2 := g1.trans0 f2
    have s2 := f2.lt s1
    rw [qx]
    try simp (maxDischargeDepth := 8) [↓sC, sB, sM, m2]
    refine (refSame_spec ha.2.2.2 (b := 0) (by unfold H63; omega)).call ?_
    rintro _ w3 ⟨rfl, f3⟩
    have m3 : mm w3 (sz w) = acV a (.slice la a.make.list.length c) := by rw [f3.mm s2 (by simp), m2]
    have g3 := g2.trans0 f3
    have s3 := f3.lt s2
    rcases (Decidable.em (key a.x = key 0)).symm with t2 | t2
    · try simp (maxDischargeDepth := 8) [↓sC, sB, sM, m3, t2]
      exact g3
    rw [decide_eq_true t2]
    try simp (maxDischargeDepth := 8) [↓sC, sB, sM, m3, b115]
    refine (has_spec).call ?_
    rintro _ w4 ⟨rfl, f4⟩
    have m4 : mm w4 (sz w) = acV a (.slice la a.make.list.length c) := by rw [f4.mm s3 (by simp), m3]
    have g4 := g3.trans0 f4
    have s4 := f4.lt s3
    rw [qs]
    rcases (Decidable.em (a.s = [])).symm with t3 | t3
    · try simp (maxDischargeDepth := 8) [↓sC, sB, sM, m4, hne, t3]
      exact g4
    try simp (maxDischargeDepth := 8) [↓sC, sB, sM, m4, hne, t3, kb, am5, ko1]
    refine (on_spec0).call ?_
    rintro _ w5 ⟨rfl, f5⟩
    have m5 : mm w5 (sz w) = acV a (.slice la a.make.list.length c) := by rw [f5.mm s4 (by simp), m4]
    have g5 := g4.trans0 f5
    have s5 := f5.lt s4
    try simp (maxDischargeDepth := 8) [↓sC, sB, sM, m5, hlen, ko, ko1]
    refine (on_spec0).call ?_
    rintro _ w6 ⟨rfl, f6⟩
    have m6 : mm w6 (sz w) = acV a (.slice la a.make.list.length c) := by rw [f6.mm s5 (by simp), m5]
    have g6 := g5.trans0 f6
    have s6 := f6.lt s5
    rcases (Decidable.em (a.s.length ≤ 16)).symm with t4 | t4
    · have t4i : (16 : Int) < a.s.length := by omega
      try simp (maxDischargeDepth := 8) [↓sC, sB, sM, m6, hlen, ko, t4i, ko1]
      exact g6
    have t4i : ¬ (16 : Int) < a.s.length := by omega
    try simp (maxDischargeDepth := 8) [↓sC, sB, sM, m6, hlen, ko, t4i, ko1, ko10, ko11, ki1, ki2]
    refine (refProper_spec ha.2.2.2).call ?_
    rintro _ w7 ⟨rfl, f7⟩
    have m7 : mm w7 (sz w) = acV a (.slice la a.make.list.length c) := by rw [f7.mm s6 (by simp), m6]
    have g7 := g6.trans0 f7
    have s7 := f7.lt s6
    rcases (Decidable.em (a.x = canon a.x)).symm with p | p
    · try simp (maxDischargeDepth := 8) [↓sC, sB, sM, p]
      exact g7
    rw [decide_eq_true p]
    try simp (maxDischargeDepth := 8) [↓sC, sB, sM, m7, kb, am5]
    refine (refCheck_spec (ha.1.fr0 g7)).call ?_
    rintro _ w8 ⟨cn, rfl, hcn, f8⟩
    have g8 := g7.trans0 f8
    try simp (maxDischargeDepth := 8) [↓sC, sB, sM]
    exact ⟨fun h => by have hmk := hcn h; exact ⟨a1, a9, y1, y2, fun _ => t1, fun _ => t2, fun _ => t3, fun h => absurd kb h, fun h => absurd h ko, fun _ => t4, fun h => absurd h ki, p, fun _ => hmk⟩, g8⟩
  · rw [qn]
    have ko : onF a.kind = 1 := by simpa using qo
    have kb : ¬ a.kind = 1 := by simpa using qb
    have ki : ¬ (a.kind = 10 ∨ a.kind = 11) := by simpa using qi
    have ki1 : ¬ a.kind = 10 := fun h => ki (.inl h)
    have ki2 : ¬ a.kind = 11 := fun h => ki (.inr h)
    rcases (Decidable.em (a.n = 0)).symm with t1 | t1
    · try simp (maxDischargeDepth := 8) [↓sC, sB, sM, m1, t1]
      exact g1
    try simp (maxDischargeDepth := 8) [↓sC, sB, sM, m1, t1, b120]
    refine (has_spec).call ?_
    rintro _ w2 ⟨rfl, f2⟩
    have m2 : mm w2 (sz w) = acV a (.slice la a.make.list.length c) := by rw [f2.mm s1 (by simp), m1]
    have g2 := g1.trans0 f2
    have s2 := f2.lt s1
    rw [qx]
    try simp (maxDischargeDepth := 8) [↓sC, sB, sM, m2]
    refine (refSame_spec ha.2.2.2 (b := 0) (by unfold H63; omega)).call ?_
    rintro _ w3 ⟨rfl, f3⟩
    have m3 : mm w3 (sz w) = acV a (.slice la a.make.list.length c) := by rw [f3.mm s2 (by simp), m2]
    have g3 := g2.trans0 f3
    have s3 := f3.lt s2
    rcases (Decidable.em (key a.x = key 0)).symm with t2 | t2
    · try simp (maxDischargeDepth := 8) [↓sC, sB, sM, m3, t2]
      exact g3
    rw [decide_eq_true t2]
    try simp (maxDischargeDepth := 8) [↓sC, sB, sM, m3, b115]
    refine (has_spec).call ?_
    rintro _ w4 ⟨rfl, f4⟩
    have m4 : mm w4 (sz w) = acV a (.slice la a.make.list.length c) := by rw [f4.mm s3 (by simp), m3]
    have g4 := g3.trans0 f4
    have s4 := f4.lt s3
    rw [qs]
    try simp (maxDischargeDepth := 8) [↓sC, sB, sM, m4, hne, kb, am5, bf25_zero, -bf25]
    refine (refZero_spec (ha.1.fr0 g4)).call ?_
    rintro _ w5 ⟨zb, rfl, hzb, f5⟩
    have m5 : mm w5 (sz w) = acV a (.slice la a.make.list.length c) := by rw [f5.mm s4 (by simp), m4]
    have g5 := g4.trans0 f5
    have s5 := f5.lt s4
    cases zb
    · try simp (maxDischargeDepth := 8) [↓sC, sB, sM, m5]
      exact g5
    have hz := hzb rfl
    try simp (maxDischargeDepth := 8) [↓sC, sB, sM, m5]
    refine (on_spec0).call ?_
    rintro _ w6 ⟨rfl, f6⟩
    have m6 : mm w6 (sz w) = acV a (.slice la a.make.list.length c) := by rw [f6.mm s5 (by simp), m5]
    have g6 := g5.trans0 f6
    have s6 := f6.lt s5
    rcases (Decidable.em (a.s.length ≤ 64)).symm with t4 | t4
    · have t4i : (64 : Int) < a.s.length := by omega
      try simp (maxDischargeDepth := 8) [↓sC, sB, sM, m6, hlen, ko, t4i, ko1]
      exact g6
    have t4i : ¬ (64 : Int) < a.s.length := by omega
    try simp (maxDischargeDepth := 8) [↓sC, sB, sM, m6, hlen, ko, t4i, ko1]
    refine (on_spec0).call ?_
    rintro _ w7 ⟨rfl, f7⟩
    have m7 : mm w7 (sz w) = acV a (.slice la a.make.list.length c) := by rw [f7.mm s6 (by simp), m6]
    have g7 := g6.trans0 f7
    have s7 := f7.lt s6
    try simp (maxDischargeDepth := 8) [↓sC, sB, sM, m7, ko]
    try simp (maxDischargeDepth := 8) [↓sC, sB, sM, m7, ko, ki1, ki2]
    refine (refProper_spec ha.2.2.2).call ?_
    rintro _ w8 ⟨rfl, f8⟩
    have m8 : mm w8 (sz w) = acV a (.slice la a.make.list.length c) := by rw [f8.mm s7 (by simp), m7]
    have g8 := g7.trans0 f8
    have s8 := f8.lt s7
    rcases (Decidable.em (a.x = canon a.x)).symm with p | p
    · try simp (maxDischargeDepth := 8) [↓sC, sB, sM, p]
      exact g8
    rw [decide_eq_true p]
    try simp (maxDischargeDepth := 8) [↓sC, sB, sM, m8, kb]
    exact ⟨⟨a1, a9, y1, y2, fun _ => t1, fun _ => t2, fun h => (by rw [qs] at h; cases h), fun _ => hz, fun _ => t4, fun h => absurd ko h, fun h => absurd h ki, p, fun h => absurd h kb⟩, g8⟩
  · rw [qn]
    have ko : ¬ onF a.kind = 1 := by simpa using qo
    have kb : ¬ a.kind = 1 := by simpa using qb
    have ki : ¬ (a.kind = 10 ∨ a.kind = 11) := by simpa using qi
    have ki1 : ¬ a.kind = 10 := fun h => ki (.inl h)
    have ki2 : ¬ a.kind = 11 := fun h => ki (.inr h)
    try simp (maxDischargeDepth := 8) [↓sC, sB, sM, m1, b120]
    refine (has_spec).call ?_
    rintro _ w2 ⟨rfl, f2⟩
    have m2 : mm w2 (sz w) = acV a (.slice la a.make.list.length c) := by rw [f2.mm s1 (by simp), m1]
    have g2 := g1.trans0 f2
    have s2 := f2.lt s1
    rw [qx]
    try simp (maxDischargeDepth := 8) [↓sC, sB, sM, m2]
    refine (refSame_spec ha.2.2.2 (b := 0) (by unfold H63; omega)).call ?_
    rintro _ w3 ⟨rfl, f3⟩
    have m3 : mm w3 (sz w) = acV a (.slice la a.make.list.length c) := by rw [f3.mm s2 (by simp), m2]
    have g3 := g2.trans0 f3
    have s3 := f3.lt s2
    rcases (Decidable.em (key a.x = key 0)).symm with t2 | t2
    · try simp (maxDischargeDepth := 8) [↓sC, sB, sM, m3, t2]
      exact g3
    rw [decide_eq_true t2]
    try simp (maxDischargeDepth := 8) [↓sC, sB, sM, m3, b115]
    refine (has_spec).call ?_
    rintro _ w4 ⟨rfl, f4⟩
    have m4 : mm w4 (sz w) = acV a (.slice la a.make.list.length c) := by rw [f4.mm s3 (by simp), m3]
    have g4 := g3.trans0 f4
    have s4 := f4.lt s3
    rw [qs]
    rcases (Decidable.em (a.s = [])).symm with t3 | t3
    · try simp (maxDischargeDepth := 8) [↓sC, sB, sM, m4, hne, t3]
      exact g4
    try simp (maxDischargeDepth := 8) [↓sC, sB, sM, m4, hne, t3, kb, am5, bf25_zero, -bf25]
    refine (refZero_spec (ha.1.fr0 g4)).call ?_
    rintro _ w5 ⟨zb, rfl, hzb, f5⟩
    have m5 : mm w5 (sz w) = acV a (.slice la a.make.list.length c) := by rw [f5.mm s4 (by simp), m4]
    have g5 := g4.trans0 f5
    have s5 := f5.lt s4
    cases zb
    · try simp (maxDischargeDepth := 8) [↓sC, sB, sM, m5]
      exact g5
    have hz := hzb rfl
    try simp (maxDischargeDepth := 8) [↓sC, sB, sM, m5]
    refine (on_spec0).call ?_
    rintro _ w6 ⟨rfl, f6⟩
    have m6 : mm w6 (sz w) = acV a (.slice la a.make.list.length c) := by rw [f6.mm s5 (by simp), m5]
    have g6 := g5.trans0 f6
    have s6 := f6.lt s5
    try simp (maxDischargeDepth := 8) [↓sC, sB, sM, m6, hlen, ko, ko1]
    refine (on_spec0).call ?_
    rintro _ w7 ⟨rfl, f7⟩
    have m7 : mm w7 (sz w) = acV a (.slice la a.make.list.length c) := by rw [f7.mm s6 (by simp), m6]
    have g7 := g6.trans0 f7
    have s7 := f7.lt s6
    rcases (Decidable.em (a.s.length ≤ 16)).symm with t4 | t4
    · have t4i : (16 : Int) < a.s.length := by omega
      try simp (maxDischargeDepth := 8) [↓sC, sB, sM, m7, hlen, ko, t4i, ko1]
      exact g7
    have t4i : ¬ (16 : Int) < a.s.length := by omega
    try simp (maxDischargeDepth := 8) [↓sC, sB, sM, m7, hlen, ko, t4i, ko1, ko10, ko11, ki1, ki2]
    refine (refProper_spec ha.2.2.2).call ?_
    rintro _ w8 ⟨rfl, f8⟩
    have m8 : mm w8 (sz w) = acV a (.slice la a.make.list.length c) := by rw [f8.mm s7 (by simp), m7]
    have g8 := g7.trans0 f8
    have s8 := f8.lt s7
    rcases (Decidable.em (a.x = canon a.x)).symm with p | p
    · try simp (maxDischargeDepth := 8) [↓sC, sB, sM, p]
      exact g8
    rw [decide_eq_true p]
    try simp (maxDischargeDepth := 8) [↓sC, sB, sM, m8, kb]
    exact ⟨⟨a1, a9, y1, y2, fun h => (by rw [qn] at h; cases h), fun _ => t2, fun _ => t3, fun _ => hz, fun h => absurd h ko, fun _ => t4, fun h => absurd h ki, p, fun h => absurd h kb⟩, g8⟩
  · rw [qn]
    have ko : ¬ onF a.kind = 1 := by simpa using qo
    have kb : ¬ a.kind = 1 := by simpa using qb
    have ki : a.kind = 10 ∨ a.kind = 11 := by simpa using qi
    try simp (maxDischargeDepth := 8) [↓sC, sB, sM, m1, b120]
    refine (has_spec).call ?_
    rintro _ w2 ⟨rfl, f2⟩
    have m2 : mm w2 (sz w) = acV a (.slice la a.make.list.length c) := by rw [f2.mm s1 (by simp), m1]
    have g2 := g1.trans0 f2
    have s2 := f2.lt s1
    rw [qx]
    try simp (maxDischargeDepth := 8) [↓sC, sB, sM, m2]
    refine (refSame_spec ha.2.2.2 (b := 0) (by unfold H63; omega)).call ?_
    rintro _ w3 ⟨rfl, f3⟩
    have m3 : mm w3 (sz w) = acV a (.slice la a.make.list.length c) := by rw [f3.mm s2 (by simp), m2]
    have g3 := g2.trans0 f3
    have s3 := f3.lt s2
    rcases (Decidable.em (key a.x = key 0)).symm with t2 | t2
    · try simp (maxDischargeDepth := 8) [↓sC, sB, sM, m3, t2]
      exact g3
    rw [decide_eq_true t2]
    try simp (maxDischargeDepth := 8) [↓sC, sB, sM, m3, b115]
    refine (has_spec).call ?_
    rintro _ w4 ⟨rfl, f4⟩
    have m4 : mm w4 (sz w) = acV a (.slice la a.make.list.length c) := by rw [f4.mm s3 (by simp), m3]
    have g4 := g3.trans0 f4
    have s4 := f4.lt s3
    rw [qs]
    rcases (Decidable.em (a.s = [])).symm with t3 | t3
    · try simp (maxDischargeDepth := 8) [↓sC, sB, sM, m4, hne, t3]
      exact g4
    try simp (maxDischargeDepth := 8) [↓sC, sB, sM, m4, hne, t3, kb, am5, bf25_zero, -bf25]
    refine (refZero_spec (ha.1.fr0 g4)).call ?_
    rintro _ w5 ⟨zb, rfl, hzb, f5⟩
    have m5 : mm w5 (sz w) = acV a (.slice la a.make.list.length c) := by rw [f5.mm s4 (by simp), m4]
    have g5 := g4.trans0 f5
    have s5 := f5.lt s4
    cases zb
    · try simp (maxDischargeDepth := 8) [↓sC, sB, sM, m5]
      exact g5
    have hz := hzb rfl
    try simp (maxDischargeDepth := 8) [↓sC, sB, sM, m5]
    refine (on_spec0).call ?_
    rintro _ w6 ⟨rfl, f6⟩
    have m6 : mm w6 (sz w) = acV a (.slice la a.make.list.length c) := by rw [f6.mm s5 (by simp), m5]
    have g6 := g5.trans0 f6
    have s6 := f6.lt s5
    try simp (maxDischargeDepth := 8) [↓sC, sB, sM, m6, hlen, ko, ko1]
    refine (on_spec0).call ?_
    rintro _ w7 ⟨rfl, f7⟩
    have m7 : mm w7 (sz w) = acV a (.slice la a.make.list.length c) := by rw [f7.mm s6 (by simp), m6]
    have g7 := g6.trans0 f7
    have s7 := f7.lt s6
    rcases (Decidable.em (a.s.length ≤ 16)).symm with t4 | t4
    · have t4i : (16 : Int) < a.s.length := by omega
      try simp (maxDischargeDepth := 8) [↓sC, sB, sM, m7, hlen, ko, t4i, ko1]
      exact g7
    have t4i : ¬ (16 : Int) < a.s.length := by omega
    rcases (Decidable.em (0 ≤ a.n)).symm with t5 | t5
    · have t5i : a.n < 0 := by omega
      rcases ki with ki | ki <;> try simp (maxDischargeDepth := 8) [↓sC, sB, sM, m7, hlen, ko, t4i, ko1, ko10, ko11, ki, t5i]
      all_goals exact g7
    have t5i : ¬ a.n < 0 := by omega
    rcases (Decidable.em (a.n ≤ MP)).symm with t6 | t6
    · have t6i : 2305843009213693952 < a.n := by unfold MP at t6; omega
      rcases ki with ki | ki <;> try simp (maxDischargeDepth := 8) [↓sC, sB, sM, m7, hlen, ko, t4i, ko1, ko10, ko11, ki, t5i, t6i]
      all_goals exact g7
    have t6i : ¬ 2305843009213693952 < a.n := by unfold MP at t6; omega
    have pre : ∀ {X : Prop}, (a.kind = 10 → X) → (a.kind = 11 → X) → X := fun h h' => ki.elim h h'
    refine pre (fun ki => ?_) (fun ki => ?_)
    · try simp (maxDischargeDepth := 8) [↓sC, sB, sM, m7, hlen, ko, t4i, ko1, ko10, ko11, ki, t5i, t6i]
      refine (refProper_spec ha.2.2.2).call ?_
      rintro _ w8 ⟨rfl, f8⟩
      have m8 : mm w8 (sz w) = acV a (.slice la a.make.list.length c) := by rw [f8.mm s7 (by simp), m7]
      have g8 := g7.trans0 f8
      have s8 := f8.lt s7
      rcases (Decidable.em (a.x = canon a.x)).symm with p | p
      · try simp (maxDischargeDepth := 8) [↓sC, sB, sM, p]
        exact g8
      rw [decide_eq_true p]
      try simp (maxDischargeDepth := 8) [↓sC, sB, sM, m8, kb]
      exact ⟨⟨a1, a9, y1, y2, fun h => (by rw [qn] at h; cases h), fun _ => t2, fun _ => t3, fun _ => hz, fun h => absurd h ko, fun _ => t4, fun _ => ⟨t5, t6⟩, p, fun h => absurd h kb⟩, g8⟩
    · try simp (maxDischargeDepth := 8) [↓sC, sB, sM, m7, hlen, ko, t4i, ko1, ko10, ko11, ki, t5i, t6i]
      refine (refProper_spec ha.2.2.2).call ?_
      rintro _ w8 ⟨rfl, f8⟩
      have m8 : mm w8 (sz w) = acV a (.slice la a.make.list.length c) := by rw [f8.mm s7 (by simp), m7]
      have g8 := g7.trans0 f8
      have s8 := f8.lt s7
      rcases (Decidable.em (a.x = canon a.x)).symm with p | p
      · try simp (maxDischargeDepth := 8) [↓sC, sB, sM, p]
        exact g8
      rw [decide_eq_true p]
      try simp (maxDischargeDepth := 8) [↓sC, sB, sM, m8, kb]
      exact ⟨⟨a1, a9, y1, y2, fun h => (by rw [qn] at h; cases h), fun _ => t2, fun _ => t3, fun _ => hz, fun h => absurd h ko, fun _ => t4, fun _ => ⟨t5, t6⟩, p, fun h => absurd h kb⟩, g8⟩
  · rw [qn]
    have ko : ¬ onF a.kind = 1 := by simpa using qo
    have kb : ¬ a.kind = 1 := by simpa using qb
    have ki : ¬ (a.kind = 10 ∨ a.kind = 11) := by simpa using qi
    have ki1 : ¬ a.kind = 10 := fun h => ki (.inl h)
    have ki2 : ¬ a.kind = 11 := fun h => ki (.inr h)
    rcases (Decidable.em (a.n = 0)).symm with t1 | t1
    · try simp (maxDischargeDepth := 8) [↓sC, sB, sM, m1, t1]
      exact g1
    try simp (maxDischargeDepth := 8) [↓sC, sB, sM, m1, t1, b120]
    refine (has_spec).call ?_
    rintro _ w2 ⟨rfl, f2⟩
    have m2 : mm w2 (sz w) = acV a (.slice la a.make.list.length c) := by rw [f2.mm s1 (by simp), m1]
    have g2 := g1.trans0 f2
    have s2 := f2.lt s1
    rw [qx]
    try simp (maxDischargeDepth := 8) [↓sC, sB, sM, m2, b115]
    refine (has_spec).call ?_
    rintro _ w3 ⟨rfl, f3⟩
    have m3 : mm w3 (sz w) = acV a (.slice la a.make.list.length c) := by rw [f3.mm s2 (by simp), m2]
    have g3 := g2.trans0 f3
    have s3 := f3.lt s2
    rw [qs]
    rcases (Decidable.em (a.s = [])).symm with t3 | t3
    · try simp (maxDischargeDepth := 8) [↓sC, sB, sM, m3, hne, t3]
      exact g3
    try simp (maxDischargeDepth := 8) [↓sC, sB, sM, m3, hne, t3, kb, am5, bf25_zero, -bf25]
    refine (refZero_spec (ha.1.fr0 g3)).call ?_
    rintro _ w4 ⟨zb, rfl, hzb, f4⟩
    have m4 : mm w4 (sz w) = acV a (.slice la a.make.list.length c) := by rw [f4.mm s3 (by simp), m3]
    have g4 := g3.trans0 f4
    have s4 := f4.lt s3
    cases zb
    · try simp (maxDischargeDepth := 8) [↓sC, sB, sM, m4]
      exact g4
    have hz := hzb rfl
    try simp (maxDischargeDepth := 8) [↓sC, sB, sM, m4]
    refine (on_spec0).call ?_
    rintro _ w5 ⟨rfl, f5⟩
    have m5 : mm w5 (sz w) = acV a (.slice la a.make.list.length c) := by rw [f5.mm s4 (by simp), m4]
    have g5 := g4.trans0 f5
    have s5 := f5.lt s4
    try simp (maxDischargeDepth := 8) [↓sC, sB, sM, m5, hlen, ko, ko1]
    refine (on_spec0).call ?_
    rintro _ w6 ⟨rfl, f6⟩
    have m6 : mm w6 (sz w) = acV a (.slice la a.make.list.length c) := by rw [f6.mm s5 (by simp), m5]
    have g6 := g5.trans0 f6
    have s6 := f6.lt s5
    rcases (Decidable.em (a.s.length ≤ 16)).symm with t4 | t4
    · have t4i : (16 : Int) < a.s.length := by omega
      try simp (maxDischargeDepth := 8) [↓sC, sB, sM, m6, hlen, ko, t4i, ko1]
      exact g6
    have t4i : ¬ (16 : Int) < a.s.length := by omega
    try simp (maxDischargeDepth := 8) [↓sC, sB, sM, m6, hlen, ko, t4i, ko1, ko10, ko11, ki1, ki2]
    refine (refProper_spec ha.2.2.2).call ?_
    rintro _ w7 ⟨rfl, f7⟩
    have m7 : mm w7 (sz w) = acV a (.slice la a.make.list.length c) := by rw [f7.mm s6 (by simp), m6]
    have g7 := g6.trans0 f7
    have s7 := f7.lt s6
    rcases (Decidable.em (a.x = canon a.x)).symm with p | p
    · try simp (maxDischargeDepth := 8) [↓sC, sB, sM, p]
      exact g7
    rw [decide_eq_true p]
    try simp (maxDischargeDepth := 8) [↓sC, sB, sM, m7, kb]
    exact ⟨⟨a1, a9, y1, y2, fun _ => t1, fun h => (by rw [qx] at h; cases h), fun _ => t3, fun _ => hz, fun h => absurd h ko, fun _ => t4, fun h => absurd h ki, p, fun h => absurd h kb⟩, g7⟩
  · rw [qn]
    have ko : ¬ onF a.kind = 1 := by simpa using qo
    have kb : ¬ a.kind = 1 := by simpa using qb
    have ki : ¬ (a.kind = 10 ∨ a.kind = 11) := by simpa using qi
    have ki1 : ¬ a.kind = 10 := fun h => ki (.inl h)
    have ki2 : ¬ a.kind = 11 := fun h => ki (.inr h)
    rcases (Decidable.em (a.n = 0)).symm with t1 | t1
    · try simp (maxDischargeDepth := 8) [↓sC, sB, sM, m1, t1]
      exact g1
    try simp (maxDischargeDepth := 8) [↓sC, sB, sM, m1, t1, b120]
    refine (has_spec).call ?_
    rintro _ w2 ⟨rfl, f2⟩
    have m2 : mm w2 (sz w) = acV a (.slice la a.make.list.length c) := by rw [f2.mm s1 (by simp), m1]
    have g2 := g1.trans0 f2
    have s2 := f2.lt s1
    rw [qx]
    try simp (maxDischargeDepth := 8) [↓sC, sB, sM, m2]
    refine (refSame_spec ha.2.2.2 (b := 0) (by unfold H63; omega)).call ?_
    rintro _ w3 ⟨rfl, f3⟩
    have m3 : mm w3 (sz w) = acV a (.slice la a.make.list.length c) := by rw [f3.mm s2 (by simp), m2]
    have g3 := g2.trans0 f3
    have s3 := f3.lt s2
    rcases (Decidable.em (key a.x = key 0)).symm with t2 | t2
    · try simp (maxDischargeDepth := 8) [↓sC, sB, sM, m3, t2]
      exact g3
    rw [decide_eq_true t2]
    try simp (maxDischargeDepth := 8) [↓sC, sB, sM, m3, b115]
    refine (has_spec).call ?_
    rintro _ w4 ⟨rfl, f4⟩
    have m4 : mm w4 (sz w) = acV a (.slice la a.make.list.length c) := by rw [f4.mm s3 (by simp), m3]
    have g4 := g3.trans0 f4
    have s4 := f4.lt s3
    rw [qs]
    try simp (maxDischargeDepth := 8) [↓sC, sB, sM, m4, hne, kb, am5, bf25_zero, -bf25]
    refine (refZero_spec (ha.1.fr0 g4)).call ?_
    rintro _ w5 ⟨zb, rfl, hzb, f5⟩
    have m5 : mm w5 (sz w) = acV a (.slice la a.make.list.length c) := by rw [f5.mm s4 (by simp), m4]
    have g5 := g4.trans0 f5
    have s5 := f5.lt s4
    cases zb
    · try simp (maxDischargeDepth := 8) [↓sC, sB, sM, m5]
      exact g5
    have hz := hzb rfl
    try simp (maxDischargeDepth := 8) [↓sC, sB, sM, m5]
    refine (on_spec0).call ?_
    rintro _ w6 ⟨rfl, f6⟩
    have m6 : mm w6 (sz w) = acV a (.slice la a.make.list.length c) := by rw [f6.mm s5 (by simp), m5]
    have g6 := g5.trans0 f6
    have s6 := f6.lt s5
    try simp (maxDischargeDepth := 8) [↓sC, sB, sM, m6, hlen, ko, ko1]
    refine (on_spec0).call ?_
    rintro _ w7 ⟨rfl, f7⟩
    have m7 : mm w7 (sz w) = acV a (.slice la a.make.list.length c) := by rw [f7.mm s6 (by simp), m6]
    have g7 := g6.trans0 f7
    have s7 := f7.lt s6
    rcases (Decidable.em (a.s.length ≤ 16)).symm with t4 | t4
    · have t4i : (16 : Int) < a.s.length := by omega
      try simp (maxDischargeDepth := 8) [↓sC, sB, sM, m7, hlen, ko, t4i, ko1]
      exact g7
    have t4i : ¬ (16 : Int) < a.s.length := by omega
    try simp (maxDischargeDepth := 8) [↓sC, sB, sM, m7, hlen, ko, t4i, ko1, ko10, ko11, ki1, ki2]
    refine (refProper_spec ha.2.2.2).call ?_
    rintro _ w8 ⟨rfl, f8⟩
    have m8 : mm w8 (sz w) = acV a (.slice la a.make.list.length c) := by rw [f8.mm s7 (by simp), m7]
    have g8 := g7.trans0 f8
    have s8 := f8.lt s7
    rcases (Decidable.em (a.x = canon a.x)).symm with p | p
    · try simp (maxDischargeDepth := 8) [↓sC, sB, sM, p]
      exact g8
    rw [decide_eq_true p]
    try simp (maxDischargeDepth := 8) [↓sC, sB, sM, m8, kb]
    exact ⟨⟨a1, a9, y1, y2, fun _ => t1, fun _ => t2, fun h => (by rw [qs] at h; cases h), fun _ => hz, fun h => absurd h ko, fun _ => t4, fun h => absurd h ki, p, fun h => absurd h kb⟩, g8⟩
  · rw [qn]
    have ko : ¬ onF a.kind = 1 := by simpa using qo
    have kb : ¬ a.kind = 1 := by simpa using qb
    have ki : ¬ (a.kind = 10 ∨ a.kind = 11) := by simpa using qi
    have ki1 : ¬ a.kind = 10 := fun h => ki (.inl h)
    have ki2 : ¬ a.kind = 11 := fun h => ki (.inr h)
    rcases (Decidable.em (a.n = 0)).symm with t1 | t1
    · try simp (maxDischargeDepth := 8) [↓sC, sB, sM, m1, t1]
      exact g1
    try simp (maxDischargeDepth := 8) [↓sC, sB, sM, m1, t1, b120]
    refine (has_spec).call ?_
    rintro _ w2 ⟨rfl, f2⟩
    have m2 : mm w2 (sz w) = acV a (.slice la a.make.list.length c) := by rw [f2.mm s1 (by simp), m1]
    have g2 := g1.trans0 f2
    have s2 := f2.lt s1
    rw [qx]
    try simp (maxDischargeDepth := 8) [↓sC, sB, sM, m2, b115]
    refine (has_spec).call ?_
    rintro _ w3 ⟨rfl, f3⟩
    have m3 : mm w3 (sz w) = acV a (.slice la a.make.list.length c) := by rw [f3.mm s2 (by simp), m2]
    have g3 := g2.trans0 f3
    have s3 := f3.lt s2
    rw [qs]
    try simp (maxDischargeDepth := 8) [↓sC, sB, sM, m3, hne, kb, am5, bf25_zero, -bf25]
    refine (refZero_spec (ha.1.fr0 g3)).call ?_
    rintro _ w4 ⟨zb, rfl, hzb, f4⟩
    have m4 : mm w4 (sz w) = acV a (.slice la a.make.list.length c) := by rw [f4.mm s3 (by simp), m3]
    have g4 := g3.trans0 f4
    have s4 := f4.lt s3
    cases zb
    · try simp (maxDischargeDepth := 8) [↓sC, sB, sM, m4]
      exact g4
    have hz := hzb rfl
    try simp (maxDischargeDepth := 8) [↓sC, sB, sM, m4]
    refine (on_spec0).call ?_
    rintro _ w5 ⟨rfl, f5⟩
    have m5 : mm w5 (sz w) = acV a (.slice la a.make.list.length c) := by rw [f5.mm s4 (by simp), m4]
    have g5 := g4.trans0 f5
    have s5 := f5.lt s4
    try simp (maxDischargeDepth := 8) [↓sC, sB, sM, m5, hlen, ko, ko1]
    refine (on_spec0).call ?_
    rintro _ w6 ⟨rfl, f6⟩
    have m6 : mm w6 (sz w) = acV a (.slice la a.make.list.length c) := by rw [f6.mm s5 (by simp), m5]
    have g6 := g5.trans0 f6
    have s6 := f6.lt s5
    rcases (Decidable.em (a.s.length ≤ 16)).symm with t4 | t4
    · have t4i : (16 : Int) < a.s.length := by omega
      try simp (maxDischargeDepth := 8) [↓sC, sB, sM, m6, hlen, ko, t4i, ko1]
      exact g6
    have t4i : ¬ (16 : Int) < a.s.length := by omega
    try simp (maxDischargeDepth := 8) [↓sC, sB, sM, m6, hlen, ko, t4i, ko1, ko10, ko11, ki1, ki2]
    refine (refProper_spec ha.2.2.2).call ?_
    rintro _ w7 ⟨rfl, f7⟩
    have m7 : mm w7 (sz w) = acV a (.slice la a.make.list.length c) := by rw [f7.mm s6 (by simp), m6]
    have g7 := g6.trans0 f7
    have s7 := f7.lt s6
    rcases (Decidable.em (a.x = canon a.x)).symm with p | p
    · try simp (maxDischargeDepth := 8) [↓sC, sB, sM, p]
      exact g7
    rw [decide_eq_true p]
    try simp (maxDischargeDepth := 8) [↓sC, sB, sM, m7, kb]
    exact ⟨⟨a1, a9, y1, y2, fun _ => t1, fun h => (by rw [qx] at h; cases h), fun h => (by rw [qs] at h; cases h), fun _ => hz, fun h => absurd h ko, fun _ => t4, fun h => absurd h ki, p, fun h => absurd h kb⟩, g7⟩
end Go.Proofs.YtieejbkbdfccdaaDoor
