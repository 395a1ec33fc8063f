/- Shelves: even. Printed by shc.py. -/
import Derived.Test.YtieejbkbdfccdaaGreatSim
import Derived.Test.YtieejbkbdfccdaaGreatKW
import Derived.Test.YtieejbkbdfccdaaGreatKV
set_option linter.unusedVariables false
set_option linter.unusedSimpArgs false
namespace Go.Proofs.YtieejbkbdfccdaaGreat
open Go
def EvR (w : World) (L : List KR) (x : Value) (w' : World) : Prop := ∃ t, t.ino = L ∧ TrR w t x w'
theorem IsRec.num {w : World} {r : RecP} {la : Option Addr} {c : Nat} (h : IsRec w (.slice la r.list.length c) r) : IsRec w (.slice la r.list.length c) r := h
set_option maxHeartbeats 8000000 in
set_option maxRecDepth 20000 in
theorem even_spec {w : World} {k : List UInt8} {r : RecP} {la : Option Addr} {c : Nat} {l rt : Tr} {vl vr : Value} (hr : IsRec w (.slice la r.list.length c) r) (hl : IsT w l vl) (hrt : IsT w rt vr) (hn : l.size + rt.size ≤ 10000) :
    Ret P 72 #[strB k, .agg (rcV r (.slice la r.list.length c)).toArray, vl, vr] w fun x w' => EvR w (l.ino ++ (k, r) :: rt.ino) x w' := by
  refine F72ok ?_
  unfold F72
  obtain ⟨W, hW⟩ : ∃ W, W = nw w (rcV r (.slice la r.list.length c)) 61 := ⟨_, rfl⟩
  have fW : Fr [] w W := by rw [hW]; exact (Fr.refl [] w).nw _ _
  have hs : sz w < sz W := by rw [hW]; simp [sM]
  have m0 : mm W (sz w) = rcV r (.slice la r.list.length c) := by rw [hW]; simp [sM]
  have t8 : ∀ r lv, (rcV r lv).take 8 = rcV r lv := fun _ _ => rfl
  have len8 : ∀ x lx, (rcV x lx).length = 8 := fun _ _ => rfl
  have kp : ∀ {w' : World}, Fr [] W w' → mm w' (sz w) = rcV r (.slice la r.list.length c) := fun h => by rw [h.mm hs (by simp), m0]
  have hmul : ∀ (n : Nat) (w : World), n ≤ 100000 → pBin P .mul 3 true (Value.int .i64 2) (i64 ((n : Nat) : Int)) w = some (i64 ((2 * n : Nat) : Int), w) := fun n w h => by
    have b2 : IntKind.i64.wrap (2 * (n : Int)) = ((2 * n : Nat) : Int) := by rw [wrap64 (by omega) (by omega)]; omega
    rw [← b2]; exact pBin_mul
  have hadd : ∀ (n : Nat), n ≤ 100000 → IntKind.i64.wrap ((n : Int) + 1) = ((n + 1 : Nat) : Int) := fun n h => by rw [wrap64 (by omega) (by omega)]; omega
  try simp (maxDischargeDepth := 8) [↓sC, sB, sM, ← hW]
  have fd := fW.drew
  refine (heavy_spec (hrt.fr0 fd) (hl.fr0 fd) (by omega) (by omega)).call ?_
  rintro _ w1 ⟨rfl, f1⟩
  have f01 : Fr [] W w1 := ((Fr.refl [] W).drew).trans0 f1
  have k1 := kp f01
  have g1 := fW.trans0 f01
  by_cases hh1 : 3 * (l.size + 1) < rt.size + 1
  · skip
    cases rt with
    | nil => simp [Tr.size] at hh1
    | node ak ar al art =>
      obtain ⟨ab, ala, ac, val, var, rfl, hab, ham, har, hal, hart⟩ := hrt
      have hsz : al.size + art.size + 1 + l.size ≤ 10000 := by simp only [Tr.size] at hn; omega
      have ka : ∀ {w' : World}, Fr [] w w' → mm w' ab = nodeV ak ar (.slice ala ar.list.length ac) val var (al.size + art.size + 1) := fun h => by rw [h.mm hab (by simp), ham]
      have ka1 := ka g1
      have d1 : (3 * (l.size + 1) < (Tr.node ak ar al art).size + 1) = True := eq_true hh1
      try simp (maxDischargeDepth := 8) [↓sC, sB, sM, d1, k1, ka1, t8, nodeVr, nodeVr']
      refine (count_spec (hal.fr0 g1)).call ?_
      rintro _ w2 ⟨rfl, f2⟩
      have g2 := g1.trans0 f2
      have f02 := f01.trans0 f2
      have k2 := kp f02
      have ka2 := ka g2
      try simp (maxDischargeDepth := 8) [↓sC, sB, sM, k2, ka2, t8, nodeVr, nodeVr', hadd _ (show al.size ≤ 100000 by omega), -Int.natCast_add]
      refine (count_spec (hart.fr0 g2)).call ?_
      rintro _ w3 ⟨rfl, f3⟩
      have g3 := g2.trans0 f3
      have f03 := f02.trans0 f3
      have k3 := kp f03
      have ka3 := ka g3
      rcases (Decidable.em (al.size + 1 < 2 * (art.size + 1))).symm with hc | hc
      · have e1 : (((al.size + 1 : Nat) : Int) < ((2 * (art.size + 1) : Nat) : Int)) = False := eq_false (by omega)
        have e2 : (al.size + 1 < 2 * (art.size + 1)) = False := eq_false hc
        try simp (maxDischargeDepth := 8) [↓sC, sB, sM, d1, k3, ka3, t8, nodeVr, nodeVr', hadd _ (show al.size ≤ 100000 by omega), hadd _ (show art.size ≤ 100000 by omega), hmul _ _ (show art.size + 1 ≤ 100000 by omega), e1, e2, -Int.natCast_add, -Int.natCast_mul]
        refine (heavy_spec (show IsT w3 (.node ak ar al art) (pt ab 0) from ⟨ab, ala, ac, val, var, rfl, g3.lt hab, ka3, har.fr0 g3, hal.fr0 g3, hart.fr0 g3⟩) (hl.fr0 g3) (by simp only [Tr.size]; omega) (by omega)).call ?_
        rintro _ w4 ⟨rfl, f4⟩
        have g4 := g3.trans0 f4
        have f04 := f03.trans0 f4
        have k4 := kp f04
        have ka4 := ka g4
        cases al with
        | nil => exfalso; simp only [Tr.size] at hc; omega
        | node xk xr xl xrt =>
          obtain ⟨xb, xla, xc, vxl, vxr, rfl, hxb, hxm, hxr, hxl, hxrt⟩ := hal
          have hxz : xl.size + xrt.size + 1 + art.size + 1 + l.size ≤ 10000 := by simp only [Tr.size] at hsz; omega
          have kx : ∀ {w' : World}, Fr [] w w' → mm w' xb = nodeV xk xr (.slice xla xr.list.length xc) vxl vxr (xl.size + xrt.size + 1) := fun h => by rw [h.mm hxb (by simp), hxm]
          have kx4 := kx g4
          try simp (maxDischargeDepth := 8) [↓sC, sB, sM, d1, k4, ka4, kx4, t8, nodeVr, nodeVr']
          refine (made_spec (hr.fr0 g4.drew) (hl.fr0 g4.drew) (hxl.fr0 g4.drew) (by omega)).call ?_
          rintro x5 w5 ⟨hA, q5⟩
          have f5 : Fr [] w4 w5 := ((Fr.refl [] w4).drew).trans0 q5
          have g5 := g4.trans0 f5
          have f05 := f04.trans0 f5
          have k5 := kp f05
          have ka5 := ka g5
          have kx5 := kx g5
          try simp (maxDischargeDepth := 8) [↓sC, sB, sM, k5, ka5, kx5, t8, nodeVr, nodeVr']
          refine (made_spec (har.fr0 g5) (hxrt.fr0 g5) (hart.fr0 g5) (by omega)).call ?_
          rintro x6 w6 ⟨hB, q6⟩
          have f6 : Fr [] w5 w6 := q6
          have g6 := g5.trans0 f6
          have f06 := f05.trans0 f6
          have k6 := kp f06
          have ka6 := ka g6
          have kx6 := kx g6
          try simp (maxDischargeDepth := 8) [↓sC, sB, sM, k6, ka6, kx6, t8, nodeVr, nodeVr']
          refine (made_spec (hxr.fr0 g6) (hA.fr0 f6) hB (by simp only [Tr.size]; omega)).call ?_
          rintro x7 w7 ⟨hC, f7⟩
          try simp (maxDischargeDepth := 8) [↓sC, sB, sM]
          exact ⟨_, by simp [Tr.ino, List.append_assoc], hC, g6.trans0 f7⟩
      · have e1 : (((al.size + 1 : Nat) : Int) < ((2 * (art.size + 1) : Nat) : Int)) = True := eq_true (by omega)
        have e2 : (al.size + 1 < 2 * (art.size + 1)) = True := eq_true hc
        try simp (maxDischargeDepth := 8) [↓sC, sB, sM, d1, k3, ka3, t8, nodeVr, nodeVr', hadd _ (show al.size ≤ 100000 by omega), hadd _ (show art.size ≤ 100000 by omega), hmul _ _ (show art.size + 1 ≤ 100000 by omega), e1, e2, -Int.natCast_add, -Int.natCast_mul]
        refine (made_spec (hr.fr0 g3.drew) (hl.fr0 g3.drew) (hal.fr0 g3.drew) (by omega)).call ?_
        rintro x4 w4 ⟨hA, q4⟩
        have f4 : Fr [] w3 w4 := ((Fr.refl [] w3).drew).trans0 q4
        have g4 := g3.trans0 f4
        have f04 := f03.trans0 f4
        have k4 := kp f04
        have ka4 := ka g4
        try simp (maxDischargeDepth := 8) [↓sC, sB, sM, k4, ka4, t8, nodeVr, nodeVr']
        refine (made_spec (har.fr0 g4) hA (hart.fr0 g4) (by simp only [Tr.size]; omega)).call ?_
        rintro x5 w5 ⟨hC, f5⟩
        try simp (maxDischargeDepth := 8) [↓sC, sB, sM]
        exact ⟨_, by simp [Tr.ino, List.append_assoc], hC, g4.trans0 f5⟩
  · have d0 : (3 * (l.size + 1) < rt.size + 1) = False := eq_false hh1
    try simp (maxDischargeDepth := 8) [↓sC, sB, sM, d0, k1, t8]
    refine (heavy_spec (hrt.fr0 g1) (hl.fr0 g1) (by omega) (by omega)).call ?_
    rintro _ w2 ⟨rfl, f2⟩
    have f02 := f01.trans0 f2
    have g2 := g1.trans0 f2
    have k2 := kp f02
    try simp (maxDischargeDepth := 8) [↓sC, sB, sM, d0, k2, t8]
    refine (heavy_spec (hl.fr0 g2.drew) (hrt.fr0 g2.drew) (by omega) (by omega)).call ?_
    rintro _ w3 ⟨rfl, f3'⟩
    have f3 : Fr [] w2 w3 := ((Fr.refl [] w2).drew).trans0 f3'
    have f03 := f02.trans0 f3
    have g3 := g2.trans0 f3
    have k3 := kp f03
    clear hh1
    by_cases hh1 : 3 * (rt.size + 1) < l.size + 1
    · skip
      cases l with
      | nil => simp [Tr.size] at hh1
      | node ak ar al art =>
        obtain ⟨ab, ala, ac, val, var, rfl, hab, ham, har, hal, hart⟩ := hl
        have hsz : al.size + art.size + 1 + rt.size ≤ 10000 := by simp only [Tr.size] at hn; omega
        have ka : ∀ {w' : World}, Fr [] w w' → mm w' ab = nodeV ak ar (.slice ala ar.list.length ac) val var (al.size + art.size + 1) := fun h => by rw [h.mm hab (by simp), ham]
        have ka3 := ka g3
        have d1 : (3 * (rt.size + 1) < (Tr.node ak ar al art).size + 1) = True := eq_true hh1
        try simp (maxDischargeDepth := 8) [↓sC, sB, sM, d1, k3, ka3, t8, nodeVr, nodeVr']
        refine (count_spec (hart.fr0 g3)).call ?_
        rintro _ w4 ⟨rfl, f4⟩
        have g4 := g3.trans0 f4
        have f04 := f03.trans0 f4
        have k4 := kp f04
        have ka4 := ka g4
        try simp (maxDischargeDepth := 8) [↓sC, sB, sM, k4, ka4, t8, nodeVr, nodeVr', hadd _ (show art.size ≤ 100000 by omega), -Int.natCast_add]
        refine (count_spec (hal.fr0 g4)).call ?_
        rintro _ w5 ⟨rfl, f5⟩
        have g5 := g4.trans0 f5
        have f05 := f04.trans0 f5
        have k5 := kp f05
        have ka5 := ka g5
        rcases (Decidable.em (art.size + 1 < 2 * (al.size + 1))).symm with hc | hc
        · have e1 : (((art.size + 1 : Nat) : Int) < ((2 * (al.size + 1) : Nat) : Int)) = False := eq_false (by omega)
          have e2 : (art.size + 1 < 2 * (al.size + 1)) = False := eq_false hc
          try simp (maxDischargeDepth := 8) [↓sC, sB, sM, d1, k5, ka5, t8, nodeVr, nodeVr', hadd _ (show art.size ≤ 100000 by omega), hadd _ (show al.size ≤ 100000 by omega), hmul _ _ (show al.size + 1 ≤ 100000 by omega), e1, e2, -Int.natCast_add, -Int.natCast_mul]
          refine (heavy_spec (show IsT w5 (.node ak ar al art) (pt ab 0) from ⟨ab, ala, ac, val, var, rfl, g5.lt hab, ka5, har.fr0 g5, hal.fr0 g5, hart.fr0 g5⟩) (hrt.fr0 g5) (by simp only [Tr.size]; omega) (by omega)).call ?_
          rintro _ w6 ⟨rfl, f6⟩
          have g6 := g5.trans0 f6
          have f06 := f05.trans0 f6
          have k6 := kp f06
          have ka6 := ka g6
          cases art with
          | nil => exfalso; simp only [Tr.size] at hc; omega
          | node xk xr xl xrt =>
            obtain ⟨xb, xla, xc, vxl, vxr, rfl, hxb, hxm, hxr, hxl, hxrt⟩ := hart
            have hxz : xl.size + xrt.size + 1 + al.size + 1 + rt.size ≤ 10000 := by simp only [Tr.size] at hsz; omega
            have kx : ∀ {w' : World}, Fr [] w w' → mm w' xb = nodeV xk xr (.slice xla xr.list.length xc) vxl vxr (xl.size + xrt.size + 1) := fun h => by rw [h.mm hxb (by simp), hxm]
            have kx6 := kx g6
            try simp (maxDischargeDepth := 8) [↓sC, sB, sM, d1, k6, ka6, kx6, t8, nodeVr, nodeVr']
            refine (made_spec (har.fr0 g6.drew) (hal.fr0 g6.drew) (hxl.fr0 g6.drew) (by omega)).call ?_
            rintro x7 w7 ⟨hA, q7⟩
            have f7 : Fr [] w6 w7 := ((Fr.refl [] w6).drew).trans0 q7
            have g7 := g6.trans0 f7
            have f07 := f06.trans0 f7
            have k7 := kp f07
            have ka7 := ka g7
            have kx7 := kx g7
            try simp (maxDischargeDepth := 8) [↓sC, sB, sM, k7, ka7, kx7, t8, nodeVr, nodeVr']
            refine (made_spec (hr.fr0 g7) (hxrt.fr0 g7) (hrt.fr0 g7) (by omega)).call ?_
            rintro x8 w8 ⟨hB, q8⟩
            have f8 : Fr [] w7 w8 := q8
            have g8 := g7.trans0 f8
            have f08 := f07.trans0 f8
            have k8 := kp f08
            have ka8 := ka g8
            have kx8 := kx g8
            try simp (maxDischargeDepth := 8) [↓sC, sB, sM, k8, ka8, kx8, t8, nodeVr, nodeVr']
            refine (made_spec (hxr.fr0 g8) (hA.fr0 f8) hB (by simp only [Tr.size]; omega)).call ?_
            rintro x9 w9 ⟨hC, f9⟩
            try simp (maxDischargeDepth := 8) [↓sC, sB, sM]
            exact ⟨_, by simp [Tr.ino, List.append_assoc], hC, g8.trans0 f9⟩
        · have e1 : (((art.size + 1 : Nat) : Int) < ((2 * (al.size + 1) : Nat) : Int)) = True := eq_true (by omega)
          have e2 : (art.size + 1 < 2 * (al.size + 1)) = True := eq_true hc
          try simp (maxDischargeDepth := 8) [↓sC, sB, sM, d1, k5, ka5, t8, nodeVr, nodeVr', hadd _ (show art.size ≤ 100000 by omega), hadd _ (show al.size ≤ 100000 by omega), hmul _ _ (show al.size + 1 ≤ 100000 by omega), e1, e2, -Int.natCast_add, -Int.natCast_mul]
          refine (made_spec (hr.fr0 g5.drew) (hart.fr0 g5.drew) (hrt.fr0 g5.drew) (by omega)).call ?_
          rintro x6 w6 ⟨hA, q6⟩
          have f6 : Fr [] w5 w6 := ((Fr.refl [] w5).drew).trans0 q6
          have g6 := g5.trans0 f6
          have f06 := f05.trans0 f6
          have k6 := kp f06
          have ka6 := ka g6
          try simp (maxDischargeDepth := 8) [↓sC, sB, sM, k6, ka6, t8, nodeVr, nodeVr']
          refine (made_spec (har.fr0 g6) (hal.fr0 g6) hA (by simp only [Tr.size]; omega)).call ?_
          rintro x7 w7 ⟨hC, f7⟩
          try simp (maxDischargeDepth := 8) [↓sC, sB, sM]
          exact ⟨_, by simp [Tr.ino, List.append_assoc], hC, g6.trans0 f7⟩
    · have d1 : (3 * (rt.size + 1) < l.size + 1) = False := eq_false hh1
      try simp (maxDischargeDepth := 8) [↓sC, sB, sM, d1, k3, t8]
      refine (heavy_spec (hl.fr0 g3) (hrt.fr0 g3) (by omega) (by omega)).call ?_
      rintro _ w4 ⟨rfl, f4⟩
      have f04 := f03.trans0 f4
      have g4 := g3.trans0 f4
      have k4 := kp f04
      try simp (maxDischargeDepth := 8) [↓sC, sB, sM, d1, k4, t8]
      refine (made_spec (hr.fr0 g4) (hl.fr0 g4) (hrt.fr0 g4) (by omega)).call ?_
      rintro x5 w5 ⟨hC, f5⟩
      try simp (maxDischargeDepth := 8) [↓sC, sB, sM]
      exact ⟨_, by simp [Tr.ino], hC, g4.trans0 f5⟩
end Go.Proofs.YtieejbkbdfccdaaGreat

set_option linter.unusedVariables false
set_option linter.unusedSimpArgs false
namespace Go.Proofs.YtieejbkbdfccdaaGreat
open Go
theorem gt_strB {t : TypeId} {lit : Bool} {l m : List UInt8} {w : World} : pBin P .gtr t lit (strB l) (strB m) w = some (.bool (Op.bytesLess m l), w) := by
  have h : (binOp .gtr t (strB l) (strB m)).run P w = .ok (.bool (Op.bytesLess m l)) w := by
    have e : (!(Op.bytesLess l m || l == m)) = Op.bytesLess m l := by
      cases h1 : Op.bytesLess l m
      · cases h2 : Op.bytesLess m l
        · rw [bl_eq h1 h2]; simp
        · have : (l == m) = false := by
            cases h3 : (l == m)
            · rfl
            · have := beq_iff_eq.1 h3; subst this; rw [bl_irrefl] at h2; cases h2
          simp [this]
      · rw [bl_asymm h1]; rfl
    have hb : ∀ l : List UInt8, (⟨l.toArray⟩ : ByteArray).toList = l := fun l => by rw [ByteArray.toList_eq]
    simp only [strB, binOp, Op.stringOp, Sem.run_pure, hb]
    rw [← e]
  simp only [pBin, runV, eqGuard_at_string, strB, Sem.run_bind, Sem.run_pure, Result.andThen_ok]
  simp only [strB] at h
  rw [h]
/-- With a key's record: pairs in order. -/
def insL (key : List UInt8) (r : RecP) : List KR → List KR
  | [] => [(key, r)]
  | (k, x) :: L => if Op.bytesLess k key then (k, x) :: insL key r L else if k = key then (key, r) :: L else (key, r) :: (k, x) :: L
def SrtK (L : List KR) : Prop := L.Pairwise fun p q => Op.bytesLess p.1 q.1 = true
theorem insL_len (key : List UInt8) (r : RecP) : ∀ L : List KR, (insL key r L).length ≤ L.length + 1
  | [] => by simp [insL]
  | (k, x) :: L => by
    have := insL_len key r L
    unfold insL
    split
    · simp; omega
    · split <;> simp
theorem insL_lt {key k0 : List UInt8} {r r0 : RecP} (h : Op.bytesLess key k0 = true) (B : List KR) : ∀ A : List KR, insL key r (A ++ (k0, r0) :: B) = insL key r A ++ (k0, r0) :: B
  | [] => by
    have h1 := bl_asymm h
    have h2 : ¬ k0 = key := fun e => by rw [e, bl_irrefl] at h; cases h
    simp [insL, h1, h2]
  | (k, x) :: A => by
    have := insL_lt (r := r) (r0 := r0) h B A
    simp only [List.cons_append, insL]
    split
    · rw [this]; rfl
    · split <;> rfl
theorem insL_front {key : List UInt8} {r : RecP} (C : List KR) : ∀ {A : List KR}, (∀ p ∈ A, Op.bytesLess p.1 key = true) → insL key r (A ++ C) = A ++ insL key r C
  | [], _ => rfl
  | (k, x) :: A, h => by
    have h1 := h (k, x) (by simp)
    simp only [List.cons_append, insL]
    rw [if_pos h1, insL_front C fun p hp => h p (by simp [hp])]
theorem srt_front {A B : List KR} {k0 : List UInt8} {r0 : RecP} (h : SrtK (A ++ (k0, r0) :: B)) : ∀ p ∈ A, Op.bytesLess p.1 k0 = true := fun p hp => (List.pairwise_append.1 h).2.2 p hp (k0, r0) (by simp)
theorem insL_gt {key k0 : List UInt8} {r r0 : RecP} {A B : List KR} (hs : SrtK (A ++ (k0, r0) :: B)) (h : Op.bytesLess k0 key = true) : insL key r (A ++ (k0, r0) :: B) = A ++ (k0, r0) :: insL key r B := by
  rw [insL_front _ fun p hp => bl_trans (srt_front hs p hp) h]
  simp [insL, h]
theorem insL_eq {key : List UInt8} {r r0 : RecP} {A B : List KR} (hs : SrtK (A ++ (key, r0) :: B)) : insL key r (A ++ (key, r0) :: B) = A ++ (key, r) :: B := by
  rw [insL_front _ (srt_front hs)]
  simp [insL, bl_irrefl]
theorem insL_mem {key : List UInt8} {r : RecP} : ∀ {L : List KR} {p : KR}, p ∈ insL key r L → p = (key, r) ∨ p ∈ L
  | [], p, h => by simp [insL] at h; exact .inl h
  | (k, x) :: L, p, h => by
    unfold insL at h
    split at h
    · rcases List.mem_cons.1 h with rfl | h
      · exact .inr (by simp)
      · exact (insL_mem h).imp id fun h => by simp [h]
    · split at h
      · rcases List.mem_cons.1 h with rfl | h
        · exact .inl rfl
        · exact .inr (by simp [h])
      · rcases List.mem_cons.1 h with rfl | h
        · exact .inl rfl
        · exact .inr h
theorem insL_srt {key : List UInt8} {r : RecP} : ∀ {L : List KR}, SrtK L → SrtK (insL key r L)
  | [], h => by simp [insL, SrtK]
  | (k, x) :: L, h => by
    obtain ⟨h1, h2⟩ := List.pairwise_cons.1 h
    unfold insL
    split
    · rename_i hk
      refine List.pairwise_cons.2 ⟨fun p hp => ?_, insL_srt h2⟩
      rcases insL_mem hp with rfl | hp
      · exact hk
      · exact h1 p hp
    · rename_i hk
      split
      · rename_i he
        subst he
        exact List.pairwise_cons.2 ⟨h1, h2⟩
      · rename_i he
        have hlt : Op.bytesLess key k = true := by
          cases hb : Op.bytesLess key k with
          | true => rfl
          | false => exact absurd (bl_eq (by simpa using hk) hb) he
        refine List.pairwise_cons.2 ⟨fun p hp => ?_, h⟩
        rcases List.mem_cons.1 hp with rfl | hp
        · exact hlt
        · exact bl_trans hlt (h1 p hp)
set_option maxHeartbeats 4000000 in
set_option maxRecDepth 20000 in
theorem set_spec {key : List UInt8} {r : RecP} {la : Option Addr} {c : Nat} : ∀ {t : Tr} {w : World} {v : Value}, IsT w t v → IsRec w (.slice la r.list.length c) r → SrtK t.ino → t.size ≤ 5000 →
    Ret P 43 #[v, strB key, .agg (rcV r (.slice la r.list.length c)).toArray] w fun x w' => EvR w (insL key r t.ino) x w'
  | .nil, w, v, h, hr, hs, hn => by
    cases h
    refine F43ok ?_
    unfold F43
    obtain ⟨W, hW⟩ : ∃ W, W = nw w (rcV r (.slice la r.list.length c)) 61 := ⟨_, rfl⟩
    have fW : Fr [] w W := by rw [hW]; exact (Fr.refl [] w).nw _ _
    have m0 : mm W (sz w) = rcV r (.slice la r.list.length c) := by rw [hW]; simp [sM]
    have t8 : ∀ r lv, (rcV r lv).take 8 = rcV r lv := fun _ _ => rfl
    try simp (maxDischargeDepth := 8) [↓sC, sB, sM, ← hW, m0, t8]
    refine (made_spec (l := .nil) (rt := .nil) (hr.fr0 fW) rfl rfl (by simp [Tr.size])).call ?_
    rintro x w1 ⟨hC, f1⟩
    try simp (maxDischargeDepth := 8) [↓sC, sB, sM]
    exact ⟨_, rfl, hC, fW.trans0 f1⟩
  | .node k0 r0 l rt, w, v, h, hr, hs, hn => by
    obtain ⟨b, ra, rc, vl, vr, rfl, hb, hm, hr0, hl, hrt⟩ := h
    simp only [Tr.size] at hn
    have hsl : SrtK l.ino := (List.pairwise_append.1 hs).1
    have hsr : SrtK rt.ino := (List.pairwise_cons.1 (List.pairwise_append.1 hs).2.1).2
    refine F43ok ?_
    unfold F43
    obtain ⟨W, hW⟩ : ∃ W, W = nw w (rcV r (.slice la r.list.length c)) 61 := ⟨_, rfl⟩
    have fW : Fr [] w W := by rw [hW]; exact (Fr.refl [] w).nw _ _
    have m0 : mm W (sz w) = rcV r (.slice la r.list.length c) := by rw [hW]; simp [sM]
    have mb : mm W b = nodeV k0 r0 (.slice ra r0.list.length rc) vl vr (l.size + rt.size + 1) := by rw [fW.mm hb (by simp), hm]
    have t8 : ∀ r lv, (rcV r lv).take 8 = rcV r lv := fun _ _ => rfl
    have hlt : ∀ w, pBin P .lss 9 false (strB key) (strB k0) w = some (.bool (Op.bytesLess key k0), w) := fun w => lt_strB
    have hgt : ∀ w, pBin P .gtr 9 false (strB key) (strB k0) w = some (.bool (Op.bytesLess k0 key), w) := fun w => gt_strB
    have fd := fW.drew
    cases h1 : Op.bytesLess key k0 with
    | true =>
      try simp (maxDischargeDepth := 8) [↓sC, sB, sM, ← hW, m0, mb, t8, nodeVr, nodeVr', hlt, h1]
      refine (set_spec (t := l) (hl.fr0 fd) (hr.fr0 fd) hsl (by omega)).call ?_
      rintro x w1 ⟨t', hino, hC, f1⟩
      have g1 := fd.trans0 f1
      have hsz : t'.size ≤ l.size + 1 := by rw [← Tr.size_ino, ← Tr.size_ino, hino]; exact insL_len _ _ _
      have mb1 : mm w1 b = nodeV k0 r0 (.slice ra r0.list.length rc) vl vr (l.size + rt.size + 1) := by rw [g1.mm hb (by simp), hm]
      try simp (maxDischargeDepth := 8) [↓sC, sB, sM, mb1, t8, nodeVr, nodeVr']
      refine (even_spec (hr0.fr0 g1) hC (hrt.fr0 g1) (by omega)).call ?_
      rintro x w2 ⟨t2, hino2, hC2, f2⟩
      try simp (maxDischargeDepth := 8) [↓sC, sB, sM]
      exact ⟨t2, by rw [hino2, hino]; exact (insL_lt h1 _ _).symm, hC2, g1.trans0 f2⟩
    | false =>
      cases h2 : Op.bytesLess k0 key with
      | true =>
        try simp (maxDischargeDepth := 8) [↓sC, sB, sM, ← hW, m0, mb, t8, nodeVr, nodeVr', hlt, h1, hgt, h2]
        refine (set_spec (t := rt) (hrt.fr0 fd) (hr.fr0 fd) hsr (by omega)).call ?_
        rintro x w1 ⟨t', hino, hC, f1⟩
        have g1 := fd.trans0 f1
        have hsz : t'.size ≤ rt.size + 1 := by rw [← Tr.size_ino, ← Tr.size_ino, hino]; exact insL_len _ _ _
        have mb1 : mm w1 b = nodeV k0 r0 (.slice ra r0.list.length rc) vl vr (l.size + rt.size + 1) := by rw [g1.mm hb (by simp), hm]
        try simp (maxDischargeDepth := 8) [↓sC, sB, sM, mb1, t8, nodeVr, nodeVr']
        refine (even_spec (hr0.fr0 g1) (hl.fr0 g1) hC (by omega)).call ?_
        rintro x w2 ⟨t2, hino2, hC2, f2⟩
        try simp (maxDischargeDepth := 8) [↓sC, sB, sM]
        exact ⟨t2, by rw [hino2, hino]; exact (insL_gt hs h2).symm, hC2, g1.trans0 f2⟩
      | false =>
        obtain rfl : key = k0 := bl_eq h1 h2
        try simp (maxDischargeDepth := 8) [↓sC, sB, sM, ← hW, m0, mb, t8, nodeVr, nodeVr', hlt, h1, hgt, h2]
        refine (made_spec (hr.fr0 fd) (hl.fr0 fd) (hrt.fr0 fd) (by omega)).call ?_
        rintro x w1 ⟨hC, f1⟩
        try simp (maxDischargeDepth := 8) [↓sC, sB, sM]
        exact ⟨_, by simp only [Tr.ino]; exact (insL_eq hs).symm, hC, fd.trans0 f1⟩
end Go.Proofs.YtieejbkbdfccdaaGreat

set_option linter.unusedVariables false
set_option linter.unusedSimpArgs false
namespace Go.Proofs.YtieejbkbdfccdaaGreat
open Go
theorem list32 {r : RecP} (hr : RecOk r) : r.list.length ≤ 32 := by
  by_cases h8 : 8 ≤ r.kind
  · obtain ⟨_, q2, q3, _⟩ := hr.cap h8
    omega
  · have h1 := hr.k1
    rcases five_kinds hr.k1 hr.k9 hr.only with ⟨_, _, _, _, _, _, _, h⟩ | ⟨_, _, _, _, _, _, _, h⟩ | ⟨_, _, _, _, _, h⟩ | ⟨_, _, _, _, _, _, _, h⟩ | ⟨h, _⟩
    all_goals first | (rw [h]; simp) | omega
def hasK (key : List UInt8) (L : List KR) : Bool := L.any fun p => decide (p.1 = key)
theorem hasK_lt {key k0 : List UInt8} {r0 : RecP} {A B : List KR} (hs : SrtK (A ++ (k0, r0) :: B)) (h : Op.bytesLess key k0 = true) : hasK key (A ++ (k0, r0) :: B) = hasK key A := by
  have hB : ∀ p ∈ B, ¬ p.1 = key := fun p hp e => by
    have h1 := (List.pairwise_cons.1 (List.pairwise_append.1 hs).2.1).1 p hp
    have h2 := bl_trans h h1
    simp only [e] at h2
    rw [bl_irrefl] at h2; cases h2
  have h0 : ¬ k0 = key := fun e => by rw [e, bl_irrefl] at h; cases h
  have hB' : (B.any fun p => decide (p.1 = key)) = false := by
    rw [List.any_eq_false]
    intro p hp
    simpa using hB p hp
  unfold hasK
  rw [List.any_append, List.any_cons, hB']
  simp [h0]
theorem hasK_gt {key k0 : List UInt8} {r0 : RecP} {A B : List KR} (hs : SrtK (A ++ (k0, r0) :: B)) (h : Op.bytesLess k0 key = true) : hasK key (A ++ (k0, r0) :: B) = hasK key B := by
  have hA : ∀ p ∈ A, ¬ p.1 = key := fun p hp e => by
    have h2 := bl_trans (srt_front hs p hp) h
    simp only [e] at h2
    rw [bl_irrefl] at h2; cases h2
  have h0 : ¬ k0 = key := fun e => by rw [e, bl_irrefl] at h; cases h
  have hA' : (A.any fun p => decide (p.1 = key)) = false := by
    rw [List.any_eq_false]
    intro p hp
    simpa using hA p hp
  unfold hasK
  rw [List.any_append, List.any_cons, hA']
  simp [h0]
structure ShT (t : Tr) : Prop where
  srt : SrtK t.ino
  ok : ∀ p ∈ t.ino, RecOk p.2
  small : t.size ≤ 5000
theorem ShT.left {k : List UInt8} {r : RecP} {l rt : Tr} (h : ShT (.node k r l rt)) : ShT l :=
  ⟨(List.pairwise_append.1 h.srt).1, fun p hp => h.ok p (by simp [Tr.ino, hp]), by have := h.small; simp only [Tr.size] at this; omega⟩
theorem ShT.right {k : List UInt8} {r : RecP} {l rt : Tr} (h : ShT (.node k r l rt)) : ShT rt :=
  ⟨(List.pairwise_cons.1 (List.pairwise_append.1 h.srt).2.1).2, fun p hp => h.ok p (by simp [Tr.ino, hp]), by have := h.small; simp only [Tr.size] at this; omega⟩
theorem ShT.here {k : List UInt8} {r : RecP} {l rt : Tr} (h : ShT (.node k r l rt)) : RecOk r := h.ok (k, r) (by simp [Tr.ino])
theorem len_spec' {w : World} {t : Tr} {v : Value} {room : Nat} (h : IsT w t v) : Ret P 20 #[.agg #[v, i64 room]] w fun x w' => x = i64 t.size ∧ Fr [] w w' := by
  refine F20ok ?_
  unfold F20
  have f1 : Fr [] w (nw w [v, i64 room] 32) := (Fr.refl [] w).nw _ _
  have hv := h.val
  have hc : (Value.agg #[v, i64 room]).cells.toList = [v, i64 room] := rfl
  try simp (maxDischargeDepth := 8) [↓sC, sB, sM, hc]
  refine (count_spec (h.fr0 f1)).call ?_
  rintro _ w2 ⟨rfl, f2⟩
  exact ⟨rfl, f1.trans0 f2⟩
theorem room_spec' {w : World} {v : Value} {room : Nat} : Ret P 39 #[.agg #[v, i64 room]] w fun x w' => x = i64 room ∧ Fr [] w w' := by
  refine F39ok ?_
  unfold F39
  have hc : (Value.agg #[v, i64 room]).cells.toList = [v, i64 room] := rfl
  try simp (maxDischargeDepth := 8) [↓sC, sB, sM, hc]
theorem newS_spec {w : World} {room : Nat} (h1 : 1 ≤ room) (h2 : room ≤ 4096) : Ret P 16 #[i64 room] w fun x w' => x = .tuple #[.agg #[.pointer none, i64 room], i64 0] ∧ Fr [] w w' := by
  refine F16ok ?_
  unfold F16
  have e1 : ¬ ((room : Int) < 1) := by omega
  have e2 : ¬ ((4096 : Int) < (room : Int)) := by omega
  have e3 : ¬ (4096 < room) := by omega
  have e4 : ¬ room = 0 := by omega
  try simp (maxDischargeDepth := 8) [↓sC, sB, sM, e1, e2, e3, e4]
def GtT (w0 : World) (key : List UInt8) (B : Bool) (rb : Nat) (m : Nat) (e : Env) (w' : World) : Prop :=
  ∃ t : Tr, m = t.size ∧ IsT w' t (e 6) ∧ ShT t ∧ hasK key t.ino = B ∧ Fr [] w0 w' ∧ e 1 = strB key ∧ e 4 = pt rb 0 ∧ mm w' rb = rcV rz (.slice none 0 0) ∧ fz w' rb = false ∧ sz w0 ≤ rb ∧ e 5 = .bool false
set_option maxHeartbeats 4000000 in
set_option maxRecDepth 20000 in
theorem getS_spec {w : World} {t : Tr} {v : Value} {room : Nat} {key : List UInt8} (h : IsT w t v) (ht : ShT t) :
    Ret P 42 #[.agg #[v, i64 room], strB key] w fun x w' => (∃ (r : RecP) (a : Option Addr) (c : Nat), x = .tuple #[.agg (rcV r (.slice a r.list.length c)).toArray, .bool (hasK key t.ino)]) ∧ Fr [] w w' := by
  refine F42ok ?_
  unfold F42
  have hc : (Value.agg #[v, i64 room]).cells.toList = [v, i64 room] := rfl
  have hz8 : [Value.int IntKind.i64 0, Value.int IntKind.i64 0, Value.int IntKind.i64 0, Value.int IntKind.i64 0, Value.float FloatKind.f64 0, Value.int IntKind.i64 0, Value.string ByteArray.empty, Value.slice none 0 0] = rcV rz (.slice none 0 0) := rfl
  have hza : Value.agg #[Value.int IntKind.i64 0, Value.int IntKind.i64 0, Value.int IntKind.i64 0, Value.int IntKind.i64 0, Value.float FloatKind.f64 0, Value.int IntKind.i64 0, Value.string ByteArray.empty, Value.slice none 0 0] = .agg (rcV rz (.slice none 0 0)).toArray := rfl
  have len8 : ∀ x lx, (rcV x lx).length = 8 := fun _ _ => rfl
  have t8 : ∀ r lv, (rcV r lv).take 8 = rcV r lv := fun _ _ => rfl
  have hspz : ∀ x l n c, splice (rcV rz (.slice none 0 0)) 0 (rcV x (.slice l n c)) = rcV x (.slice l n c) := fun _ _ _ _ => splice_full rfl
  obtain ⟨W, hW⟩ : ∃ W, W = nw (nw w [v, i64 room] 32) (rcV rz (.slice none 0 0)) 61 := ⟨_, rfl⟩
  have fW : Fr [] w W := by rw [hW]; exact ((Fr.refl [] w).nw _ _).nw _ _
  have mW : mm W (sz w + 1) = rcV rz (.slice none 0 0) := by rw [hW]; simp [mm_nw, sz_nw]
  have mW0 : mm W (sz w) = [v, i64 room] := by rw [hW]; simp [mm_nw, sz_nw]
  have zW : fz W (sz w + 1) = false := by rw [hW]; simp [fz_nw, sz_nw]
  try simp (maxDischargeDepth := 8) [↓sC, sB, sM, hc, hz8, ← hW, mW0]
  refine loopE_of (GtT w key (hasK key t.ino) (sz w + 1)) t.size ⟨t, rfl, by simpa [put_get] using h.fr0 fW, ht, rfl, fW, by simp [put_get, argE], by simp [put_get], mW, zW, by omega, by simp [put_get]⟩ ?_
  rintro m e w1 ⟨t1, rfl, h1, ht1, hB, f1, e1, e4, m1, z1, hrb, e5⟩
  unfold F42B0
  cases t1 with
  | nil =>
    have e6 : e 6 = .pointer none := h1
    try simp (maxDischargeDepth := 8) [↓sC, sB, sM, e6, e4, m1, z1, hz8, hza, hspz, rcV_oneT, len8, t8]
    exact ⟨⟨⟨rz, none, 0, rfl⟩, by rw [← hB]; rfl⟩, f1.wr (.inr hrb) _⟩
  | node k0 r0 l rt =>
    obtain ⟨b, ra, rc, vl, vr, e6, hb, hm, hr0, hl, hrt⟩ := h1
    have hlt : ∀ w, pBin P .lss 9 false (strB key) (strB k0) w = some (.bool (Op.bytesLess key k0), w) := fun w => lt_strB
    have hgt : ∀ w, pBin P .gtr 9 false (strB key) (strB k0) w = some (.bool (Op.bytesLess k0 key), w) := fun w => gt_strB
    cases hk1 : Op.bytesLess key k0 with
    | true =>
      try simp (maxDischargeDepth := 8) [↓sC, sB, sM, e6, e1, hm, hlt, hk1]
      refine ⟨l.size, by simp only [Tr.size]; omega, l, rfl, by simpa [put_get] using hl, ht1.left, ?_, f1, by simp [put_get, e1], by simp [put_get, e4], m1, z1, hrb, by simp [put_get, e5]⟩
      rw [← hB]; exact (hasK_lt ht1.srt hk1).symm
    | false =>
      cases hk2 : Op.bytesLess k0 key with
      | true =>
        try simp (maxDischargeDepth := 8) [↓sC, sB, sM, e6, e1, hm, hlt, hk1, hgt, hk2]
        refine ⟨rt.size, by simp only [Tr.size]; omega, rt, rfl, by simpa [put_get] using hrt, ht1.right, ?_, f1, by simp [put_get, e1], by simp [put_get, e4], m1, z1, hrb, by simp [put_get, e5]⟩
        rw [← hB]; exact (hasK_gt ht1.srt hk2).symm
      | false =>
        obtain rfl : key = k0 := bl_eq hk1 hk2
        have hl32 := list32 ht1.here
        try simp (maxDischargeDepth := 8) [↓sC, sB, sM, e6, e1, hm, hlt, hk1, hgt, hk2, nodeVr, nodeVr']
        refine (recCloneO_spec hr0 (by omega)).call ?_
        rintro _ w2 ⟨a2, c2, rfl, hr2, hk, f2⟩
        have hrbl := lt_of_fz z1
        have m2 : mm w2 (sz w + 1) = rcV rz (.slice none 0 0) := by rw [f2.mm hrbl (by simp), m1]
        have z2 : fz w2 (sz w + 1) = false := by rw [f2.fz hrbl (by simp), z1]
        have hBt : hasK key t.ino = true := by rw [← hB]; simp [hasK, Tr.ino]
        try simp (maxDischargeDepth := 8) [↓sC, sB, sM, e4, m2, z2, hspz, rcV_oneT, len8, t8]
        exact ⟨⟨⟨r0, a2, c2, rfl⟩, hBt⟩, (f1.trans0 f2).wr (.inr hrb) _⟩
end Go.Proofs.YtieejbkbdfccdaaGreat

set_option linter.unusedVariables false
set_option linter.unusedSimpArgs false
namespace Go.Proofs.YtieejbkbdfccdaaGreat
open Go
theorem rd_wr2 {w : World} {q n : Nat} {v : Value} {L : List ItemP} {x y : Value} (h : RdV w v n (flat itemV L)) (hm : mm w q = [.pointer none, i64 0]) (hz : fz w q = false) : RdV (wr w q [x, y]) v n (flat itemV L) := by
  rcases h with h | ⟨b, o, c, rfl, h1, h2, h3, h4, h5⟩
  · exact .inl h
  · by_cases hb : b = q
    · subst hb
      cases L with
      | nil => exact .inr ⟨b, o, c, rfl, h1, h2, by rw [sz_wr]; exact h3, by rw [mm_wr_same hz]; rw [hm] at h4; simpa using h4, by simp [flat]⟩
      | cons z L =>
        exfalso
        rw [hm] at h4 h5
        simp only [flat, List.map_cons, List.flatten_cons, itemV, List.length_append, List.length_cons, List.length_nil] at h4 h5
        obtain rfl : o = 0 := by omega
        have h6 := congrArg (fun l => l[0]?) h5
        simp at h6
    · exact .inr ⟨b, o, c, rfl, h1, h2, by rw [sz_wr]; exact h3, by rw [mm_wr_ne hb]; exact h4, by rw [mm_wr_ne hb]; exact h5⟩
theorem isT_wr {w : World} {q : Nat} {x y : Value} (hm : mm w q = [.pointer none, i64 0]) (hz : fz w q = false) : ∀ {t : Tr} {v : Value}, IsT w t v → IsT (wr w q [x, y]) t v
  | .nil, v, h => h
  | .node k r l rt, v, h => by
    obtain ⟨b, la, c, vl, vr, rfl, hb, hmb, hr, hl, hrt⟩ := h
    have hne : b ≠ q := fun e => by
      rw [e, hm] at hmb
      have := congrArg List.length hmb
      simp at this
    exact ⟨b, la, c, vl, vr, rfl, by rw [sz_wr]; exact hb, by rw [mm_wr_ne hne, hmb], ⟨rd_wr2 hr.1 hm hz, hr.2⟩, isT_wr hm hz hl, isT_wr hm hz hrt⟩
def AtT (w0 : World) (p : KR) (rb : Nat) (m : Nat) (e : Env) (w' : World) : Prop :=
  ∃ (t : Tr) (i : Nat), m = t.size ∧ IsT w' t (e 7) ∧ ShT t ∧ t.ino[i]? = some p ∧ Fr [] w0 w' ∧ e 1 = i64 i ∧ e 5 = pt rb 0 ∧ mm w' rb = rcV rz (.slice none 0 0) ∧ fz w' rb = false ∧ sz w0 ≤ rb
set_option maxHeartbeats 4000000 in
set_option maxRecDepth 20000 in
theorem at_spec {w : World} {t : Tr} {v : Value} {room i : Nat} {p : KR} (h : IsT w t v) (ht : ShT t) (hi : t.ino[i]? = some p) :
    Ret P 21 #[.agg #[v, i64 room], i64 i] w fun x w' => ∃ (a : Option Addr) (c : Nat), x = .tuple #[strB p.1, .agg (rcV p.2 (.slice a p.2.list.length c)).toArray, .bool true] ∧ IsRec w' (.slice a p.2.list.length c) p.2 ∧ Fr [] w w' := by
  refine F21ok ?_
  unfold F21
  have hc : (Value.agg #[v, i64 room]).cells.toList = [v, i64 room] := rfl
  have hz8 : [Value.int IntKind.i64 0, Value.int IntKind.i64 0, Value.int IntKind.i64 0, Value.int IntKind.i64 0, Value.float FloatKind.f64 0, Value.int IntKind.i64 0, Value.string ByteArray.empty, Value.slice none 0 0] = rcV rz (.slice none 0 0) := rfl
  have len8 : ∀ x lx, (rcV x lx).length = 8 := fun _ _ => rfl
  have t8 : ∀ r lv, (rcV r lv).take 8 = rcV r lv := fun _ _ => rfl
  have hspz : ∀ x l n c, splice (rcV rz (.slice none 0 0)) 0 (rcV x (.slice l n c)) = rcV x (.slice l n c) := fun _ _ _ _ => splice_full rfl
  obtain ⟨W, hW⟩ : ∃ W, W = nw (nw w [v, i64 room] 32) (rcV rz (.slice none 0 0)) 61 := ⟨_, rfl⟩
  have fW : Fr [] w W := by rw [hW]; exact ((Fr.refl [] w).nw _ _).nw _ _
  have mW : mm W (sz w + 1) = rcV rz (.slice none 0 0) := by rw [hW]; simp [mm_nw, sz_nw]
  have mW0 : mm W (sz w) = [v, i64 room] := by rw [hW]; simp [mm_nw, sz_nw]
  have zW : fz W (sz w + 1) = false := by rw [hW]; simp [fz_nw, sz_nw]
  try simp (maxDischargeDepth := 8) [↓sC, sB, sM, hc, hz8, ← hW, mW0]
  refine loopE_of (AtT w p (sz w + 1)) t.size ⟨t, i, rfl, by simpa [put_get] using h.fr0 fW, ht, hi, fW, by simp [put_get, argE], by simp [put_get], mW, zW, by omega⟩ ?_
  rintro m e w1 ⟨t1, j, rfl, h1, ht1, hj, f1, e1, e5, m1, z1, hrb⟩
  unfold F21B0
  cases t1 with
  | nil => simp [Tr.ino] at hj
  | node k0 r0 l rt =>
    obtain ⟨b, ra, rc, vl, vr, e7, hb, hm, hr0, hl, hrt⟩ := h1
    have hsm := ht1.small
    simp only [Tr.size] at hsm
    have hjl : j < l.size + rt.size + 1 := by
      have := (List.getElem?_eq_some_iff.1 hj).1
      rw [Tr.size_ino] at this
      simpa [Tr.size] using this
    try simp (maxDischargeDepth := 8) [↓sC, sB, sM, e7, hm]
    refine (count_spec hl).call ?_
    rintro _ w2 ⟨rfl, f2⟩
    have g2 := f1.trans0 f2
    have hm2 : mm w2 b = nodeV k0 r0 (.slice ra r0.list.length rc) vl vr (l.size + rt.size + 1) := by rw [f2.mm hb (by simp), hm]
    have hrbl := lt_of_fz z1
    have m2 : mm w2 (sz w + 1) = rcV rz (.slice none 0 0) := by rw [f2.mm hrbl (by simp), m1]
    have z2 : fz w2 (sz w + 1) = false := by rw [f2.fz hrbl (by simp), z1]
    have hlen := l.size_ino
    by_cases c1 : j < l.size
    · have c1' : (j : Int) < l.size := by omega
      try simp (maxDischargeDepth := 8) [↓sC, sB, sM, e7, e1, hm2, c1, c1']
      exact ⟨l.size, by simp only [Tr.size]; omega, l, j, rfl, by simpa [put_get] using hl.fr0 f2, ht1.left, by rw [← hj]; simp only [Tr.ino]; rw [List.getElem?_append_left (by omega)], g2, by simp [put_get, e1], by simp [put_get, e5], m2, z2, hrb⟩
    have c1' : ¬ (j : Int) < l.size := by omega
    by_cases c2 : l.size < j
    · have c2' : (l.size : Int) < j := by omega
      have a1 : IntKind.i64.wrap ((l.size : Int) + 1) = ((l.size + 1 : Nat) : Int) := by rw [wrap64 (by omega) (by omega)]; omega
      have a2 : IntKind.i64.wrap ((j : Int) - ((l.size + 1 : Nat) : Int)) = ((j - (l.size + 1) : Nat) : Int) := by rw [wrap64 (by omega) (by omega)]; omega
      try simp (maxDischargeDepth := 8) [↓sC, sB, sM, e7, e1, hm2, c1, c1', c2, c2', a1, a2, -Int.natCast_add]
      exact ⟨rt.size, by simp only [Tr.size]; omega, rt, j - (l.size + 1), rfl, by simpa [put_get] using hrt.fr0 f2, ht1.right, by rw [← hj]; simp only [Tr.ino]; rw [List.getElem?_append_right (by omega), hlen, show j - l.size = (j - (l.size + 1)) + 1 by omega]; rfl, g2, by simp [put_get], by simp [put_get, e5], m2, z2, hrb⟩
    have c2' : ¬ (l.size : Int) < j := by omega
    obtain rfl : j = l.size := by omega
    obtain rfl : p = (k0, r0) := by
      simp only [Tr.ino] at hj
      rw [List.getElem?_append_right (by omega), hlen, Nat.sub_self] at hj
      simpa using hj.symm
    have hl32 := list32 ht1.here
    have t8' : ∀ r lv, (rcV r lv).take 8 = rcV r lv := fun _ _ => rfl
    try simp (maxDischargeDepth := 8) [↓sC, sB, sM, e7, e1, hm2, c1, c1', c2, c2', nodeVr, nodeVr']
    refine (recCloneO_spec (hr0.fr0 (f2.trans0 (Fr.refl [] w2).drew)) (by omega)).call ?_
    rintro _ w3 ⟨a2, c2, rfl, hr2, hk, f3⟩
    have g3 := (g2.drew).trans0 f3
    have q3 : Fr [] w2 w3 := ((Fr.refl [] w2).drew).trans0 f3
    have hm3 : mm w3 b = nodeV k0 r0 (.slice ra r0.list.length rc) vl vr (l.size + rt.size + 1) := by rw [q3.mm (f2.lt hb) (by simp), hm2]
    have m3 : mm w3 (sz w + 1) = rcV rz (.slice none 0 0) := by rw [q3.mm (f2.lt hrbl) (by simp), m2]
    have z3 : fz w3 (sz w + 1) = false := by rw [q3.fz (f2.lt hrbl) (by simp), z2]
    try simp (maxDischargeDepth := 8) [↓sC, sB, sM, e7, e5, hm3, m3, z3, hspz, rcV_oneT, len8, t8, nodeVr, nodeVr']
    have hsz2 := f2.size
    refine ⟨a2, c2, rfl, ⟨hr2.1.fr (S := [sz w + 1]) ((Fr.refl [sz w + 1] w3).wr (.inl (by simp)) _) (fun k hk' hm => ?_), hr2.2⟩, g3.wr (.inr hrb) _⟩
    have := (hk k hk').1
    rw [sz_drew] at this
    simp at hm
    omega
def setOk (room : Nat) (L : List KR) (key : List UInt8) (r : RecP) : Prop := 1 ≤ key.length ∧ key.length ≤ 24 ∧ RecOk r ∧ (hasK key L = true ∨ L.length < room)
def SetR (room : Nat) (t : Tr) (key : List UInt8) (r : RecP) (w : World) (x : Value) (w' : World) : Prop :=
  ∃ (v' : Value) (t' : Tr) (n : Int), x = .tuple #[.agg #[v', i64 room], i64 n] ∧ IsT w' t' v' ∧ (setOk room t.ino key r → n = 0 ∧ t'.ino = insL key r t.ino) ∧ (¬ setOk room t.ino key r → t'.ino = t.ino) ∧ Fr [] w w'
set_option maxHeartbeats 4000000 in
set_option maxRecDepth 20000 in
theorem setS_spec {w : World} {t : Tr} {v : Value} {room : Nat} {key : List UInt8} {r : RecP} {la : Option Addr} {c : Nat} (h : IsT w t v) (ht : ShT t) (hr : IsRec w (.slice la r.list.length c) r) (hroom : room ≤ 4096) :
    Ret P 18 #[.agg #[v, i64 room], strB key, .agg (rcV r (.slice la r.list.length c)).toArray] w fun x w' => SetR room t key r w x w' := by
  refine F18ok ?_
  unfold F18
  have hc : (Value.agg #[v, i64 room]).cells.toList = [v, i64 room] := rfl
  have hlen : ∀ l w, pBuiltin P .len #[9] 3 [strB l] w = some (i64 l.length, w) := fun l w => len_strB und9
  have heq : ∀ w, pBin P .eql 9 true (strB key) (Value.string { data := #[] }) w = some (.bool (decide (key = [])), w) := fun w => eq_strB (m := [])
  have t8 : ∀ r lv, (rcV r lv).take 8 = rcV r lv := fun _ _ => rfl
  have hone : ∀ u, u ∈ [v, i64 (room : Int)] → u.oneCell' = true := by
    intro u hu
    simp only [List.mem_cons, List.not_mem_nil, or_false] at hu
    rcases hu with rfl | rfl
    · exact h.one
    · rfl
  obtain ⟨W, hW⟩ : ∃ W, W = nw (nw (nw w [v, i64 room] 32) (rcV r (.slice la r.list.length c)) 61) [.pointer none, i64 0] 32 := ⟨_, rfl⟩
  have fW : Fr [] w W := by rw [hW]; exact (((Fr.refl [] w).nw _ _).nw _ _).nw _ _
  have m0 : mm W (sz w) = [v, i64 room] := by rw [hW]; simp [mm_nw, sz_nw]; intro h; omega
  have m1 : mm W (sz w + 1) = rcV r (.slice la r.list.length c) := by rw [hW]; simp [mm_nw, sz_nw]
  have m2 : mm W (sz w + 2) = [.pointer none, i64 0] := by rw [hW]; simp [mm_nw, sz_nw]
  have z2 : fz W (sz w + 2) = false := by rw [hW]; simp [fz_nw, sz_nw]
  have hs : sz W = sz w + 3 := by rw [hW]; simp [sz_nw]
  have hz2 : [Value.pointer none, Value.int IntKind.i64 0] = [.pointer none, i64 0] := rfl
  have hsp2 : ∀ a b : Value, splice [Value.pointer none, i64 0] 0 [a, b] = [a, b] := fun _ _ => rfl
  have hv1 := h.one
  have h02 : ([v, i64 (room : Int)]).take 2 = [v, i64 room] := rfl
  have bad : ∀ {w' : World} (n : Int), Fr [] W w' → ¬ setOk room t.ino key r → SetR room t key r w (.tuple #[.agg #[v, i64 room], i64 n]) (wr w' (sz w + 1 + 1) [v, i64 room]) := fun n hf hno => by
    have g := (fW.trans0 hf).wr (b := sz w + 1 + 1) (.inr (by omega)) [v, i64 room]
    exact ⟨v, t, n, rfl, h.fr0 g, fun h => absurd h hno, fun _ => rfl, g⟩
  have kp : ∀ {w' : World}, Fr [] W w' → mm w' (sz w) = [v, i64 room] ∧ mm w' (sz w + 1) = rcV r (.slice la r.list.length c) ∧ mm w' (sz w + 2) = [.pointer none, i64 0] ∧ fz w' (sz w + 2) = false ∧ sz w + 3 ≤ sz w' := fun hf => by
    have := hf.size
    exact ⟨by rw [hf.mm (by omega) (by simp), m0], by rw [hf.mm (by omega) (by simp), m1], by rw [hf.mm (by omega) (by simp), m2], by rw [hf.fz (by omega) (by simp), z2], by omega⟩
  by_cases hk : 1 ≤ key.length ∧ key.length ≤ 24
  · have k1 : ¬ key = [] := by rintro rfl; simp at hk
    have k2 : ¬ (24 : Int) < key.length := by omega
    have k3 : ¬ 24 < key.length := by omega
    try simp (maxDischargeDepth := 8) [↓sC, sB, sM, hc, hlen, heq, ← hW, m0, m1, m2, z2, hs, k1, k2, k3, t8]
    have hchk : Ret P 41 #[.agg (rcV r (.slice la r.list.length c)).toArray] W fun v w' => ∃ n : Int, v = i64 n ∧ (n = 0 ↔ RecOk r) ∧ Fr [] W w' := by
      by_cases h : RecOk r
      · exact (recCheck_spec (hr.fr0 fW) h).mono fun v w' h' => ⟨0, h'.1, ⟨fun _ => h, fun _ => rfl⟩, h'.2⟩
      · exact (recCheckAny_spec (hr.fr0 fW)).mono fun v w' ⟨n, h1, h2, h3⟩ => ⟨n, h1, ⟨h2, fun h' => absurd h' h⟩, h3⟩
    refine hchk.call ?_
    rintro _ w1 ⟨n, rfl, hn, f1⟩
    obtain ⟨a0, a1, a2, a3, a4⟩ := kp f1
    rcases (Decidable.em (n = 0)).symm with n0 | n0
    · have hno : ¬ setOk room t.ino key r := fun h => n0 (hn.2 h.2.2.1)
      try simp (maxDischargeDepth := 8) [↓sC, sB, sM, n0, a0, a2, a3, hsp2, hv1]
      exact bad n f1 hno
    have hok := hn.1 n0
    have g1 := fW.trans0 f1
    try simp (maxDischargeDepth := 8) [↓sC, sB, sM, n0, a0, a1, a2, a3, hsp2, hv1]
    refine (getS_spec (room := room) (h.fr0 g1) ht).call ?_
    rintro _ w2 ⟨⟨r2, la2, c2, rfl⟩, f2⟩
    have hz8 : [Value.int IntKind.i64 0, Value.int IntKind.i64 0, Value.int IntKind.i64 0, Value.int IntKind.i64 0, Value.float FloatKind.f64 0, Value.int IntKind.i64 0, Value.string ByteArray.empty, Value.slice none 0 0] = rcV rz (.slice none 0 0) := rfl
    have hspz : ∀ x l n c, splice (rcV rz (.slice none 0 0)) 0 (rcV x (.slice l n c)) = rcV x (.slice l n c) := fun _ _ _ _ => splice_full rfl
    have len8 : ∀ x lx, (rcV x lx).length = 8 := fun _ _ => rfl
    obtain ⟨W3, hW3⟩ : ∃ W3, W3 = wr (nw w2 (rcV rz (.slice none 0 0)) 61) (sz w2) (rcV r2 (.slice la2 r2.list.length c2)) := ⟨_, rfl⟩
    have f3 : Fr [] w2 W3 := by rw [hW3]; exact ((Fr.refl [] w2).nw _ _).wr (.inr (Nat.le_refl _)) _
    have F3 := (f1.trans0 f2).trans0 f3
    obtain ⟨b0, b1, b2, b3, b4⟩ := kp F3
    have hlast : ∀ {w' : World}, Fr [] W w' → setOk room t.ino key r → ∀ (K : Value → World → Prop), True := fun _ _ _ => trivial
    cases hh : hasK key t.ino with
    | true =>
      have hso : setOk room t.ino key r := ⟨hk.1, hk.2, hok, .inl hh⟩
      try simp (maxDischargeDepth := 8) [↓sC, sB, sM, hz8, hspz, rcV_oneT, len8, ← hW3, b0, b1, b2, b3, hh, t8]
      refine (recCloneO_spec ((hr.fr0 fW).fr0 F3.drew.drew) (by have := list32 hok; omega)).call ?_
      rintro _ w5 ⟨a5, c5, rfl, hr5, hk5, f5⟩
      have F5 := (F3.drew.drew).trans0 f5
      obtain ⟨d0, d1, d2, d3, d4⟩ := kp F5
      try simp (maxDischargeDepth := 8) [↓sC, sB, sM, d0, d1, d2, d3]
      refine (set_spec (h.fr0 (fW.trans0 F5)) hr5 ht.srt ht.small).call ?_
      rintro v6 w6 ⟨t6, hino, hT6, f6⟩
      have F6 := F5.trans0 f6
      obtain ⟨e0, e1, e2, e3, e4⟩ := kp F6
      have hv6 := hT6.one
      have bf : ∀ w, pBuild P 32 [(0, v6), (1, i64 (room : Int))] w = some (.agg #[v6, i64 room], w) := fun w => by rw [bf32 (by intro p hp; simp only [List.mem_cons, List.not_mem_nil, or_false] at hp; rcases hp with rfl | rfl; exact ⟨by simp, hv6⟩; exact ⟨by simp, rfl⟩)]; rfl
      try simp (maxDischargeDepth := 8) [↓sC, sB, sM, e0, e1, e2, e3, bf, hsp2, hv6]
      have g6 := (fW.trans0 F6).wr (b := sz w + 1 + 1) (.inr (by omega)) [v6, i64 (room : Int)]
      exact ⟨v6, t6, 0, rfl, isT_wr e2 e3 hT6, fun _ => ⟨rfl, hino⟩, fun hno => absurd hso hno, g6⟩
    | false =>
      try simp (maxDischargeDepth := 8) [↓sC, sB, sM, hz8, hspz, rcV_oneT, len8, ← hW3, b0, b1, b2, b3, hh, t8]
      refine (len_spec' (room := room) (h.fr0 (fW.trans0 F3.drew))).call ?_
      rintro _ w4 ⟨rfl, f4⟩
      have F4 := F3.drew.trans0 f4
      obtain ⟨x0, x1, x2, x3, x4⟩ := kp F4
      have hsi := t.size_ino
      by_cases hlt : t.size < room
      · have hso : setOk room t.ino key r := ⟨hk.1, hk.2, hok, .inr (by omega)⟩
        have u1 : ¬ (room : Int) ≤ t.size := by omega
        have u2 : ¬ room ≤ t.size := by omega
        try simp (maxDischargeDepth := 8) [↓sC, sB, sM, x0, x1, x2, x3, u1, u2]
        refine (recCloneO_spec ((hr.fr0 fW).fr0 F4.drew) (by have := list32 hok; omega)).call ?_
        rintro _ w5 ⟨a5, c5, rfl, hr5, hk5, f5⟩
        have F5 := (F4.drew).trans0 f5
        obtain ⟨d0, d1, d2, d3, d4⟩ := kp F5
        try simp (maxDischargeDepth := 8) [↓sC, sB, sM, d0, d1, d2, d3]
        refine (set_spec (h.fr0 (fW.trans0 F5)) hr5 ht.srt ht.small).call ?_
        rintro v6 w6 ⟨t6, hino, hT6, f6⟩
        have F6 := F5.trans0 f6
        obtain ⟨e0, e1, e2, e3, e4⟩ := kp F6
        have hv6 := hT6.one
        have bf : ∀ w, pBuild P 32 [(0, v6), (1, i64 (room : Int))] w = some (.agg #[v6, i64 room], w) := fun w => by rw [bf32 (by intro p hp; simp only [List.mem_cons, List.not_mem_nil, or_false] at hp; rcases hp with rfl | rfl; exact ⟨by simp, hv6⟩; exact ⟨by simp, rfl⟩)]; rfl
        try simp (maxDischargeDepth := 8) [↓sC, sB, sM, e0, e1, e2, e3, bf, hsp2, hv6]
        have g6 := (fW.trans0 F6).wr (b := sz w + 1 + 1) (.inr (by omega)) [v6, i64 (room : Int)]
        exact ⟨v6, t6, 0, rfl, isT_wr e2 e3 hT6, fun _ => ⟨rfl, hino⟩, fun hno => absurd hso hno, g6⟩
      · have hno : ¬ setOk room t.ino key r := fun h => by
          rcases h.2.2.2 with h | h
          · rw [hh] at h; cases h
          · omega
        have u1 : (room : Int) ≤ t.size := by omega
        have u2 : room ≤ t.size := by omega
        try simp (maxDischargeDepth := 8) [↓sC, sB, sM, x0, x1, x2, x3, u1, u2, hsp2, hv1]
        exact bad 8 F4 hno
  · have hno : ¬ setOk room t.ino key r := fun h => hk ⟨h.1, h.2.1⟩
    by_cases k1 : key = []
    · have k1' : (key = []) = True := eq_true k1
      clear k1
      try simp (maxDischargeDepth := 8) [↓sC, sB, sM, hc, hlen, heq, ← hW, m0, m1, m2, z2, hs, k1', t8, hsp2, hv1]
      exact bad 1 (Fr.refl [] W) hno
    · have k2 : (24 : Int) < key.length := by
        have : key.length ≠ 0 := by simpa using k1
        omega
      have k3 : 24 < key.length := by omega
      try simp (maxDischargeDepth := 8) [↓sC, sB, sM, hc, hlen, heq, ← hW, m0, m1, m2, z2, hs, k1, k2, k3, t8, hsp2, hv1]
      exact bad 1 (Fr.refl [] W) hno
end Go.Proofs.YtieejbkbdfccdaaGreat
