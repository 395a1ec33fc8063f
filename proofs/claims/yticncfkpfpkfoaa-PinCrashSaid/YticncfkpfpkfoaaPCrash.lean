/- PinCrash: the law. Printed by pcrash.py. -/
import Derived.Test.YticncfkpfpkfoaaSim
import Derived.Test.YticncfkpfpkfoaaPCrashM
import Derived.Test.YticncfkpfpkfoaaWPinX
set_option linter.unusedVariables false
set_option linter.unusedSimpArgs false
namespace Go.Proofs.Yticncfkpfpkfoaa
open Go

theorem twoP_lo {a b : PinP} {w : World} {x : Nat} (h : mm w x = pinL a ++ pinL b) : pLoad P 87 (pt x 0) w = some (pinV a, w) := by
  rw [ld87 (by rw [h]; simp [pinL_len]), h]; rfl
theorem twoP_hi {a b : PinP} {w : World} {x : Nat} (h : mm w x = pinL a ++ pinL b) : pLoad P 87 (pt x 6) w = some (pinV b, w) := by
  rw [ld87 (by rw [h]; simp [pinL_len]), h]; rfl
def pj (p : PinP) (n : Nat) : PinP := { p with s := (n : Int) }
theorem ok_pj {p : PinP} (h : okPin p) {n : Nat} (h1 : 1 ≤ n) (h2 : n ≤ 1099511627776) : okPin (pj p n) := by
  obtain ⟨_, _, h3⟩ := h
  refine ⟨?_, ?_, h3⟩
  · show 1 ≤ (n : Int); omega
  · show (n : Int) ≤ 1099511627776; omega
theorem set_pj (p : PinP) (n : Nat) : (pinL p).set 0 (i64 (n : Int)) = pinL (pj p n) := rfl
theorem pj_s (p : PinP) (n : Nat) : (pj p n).s = (n : Int) := rfl
def CrI (w : World) (p nx : PinP) (s0 b b7 b8 ob : Nat) (x1 x2 : Value) (m : Nat) (e : Env) (w' : World) : Prop :=
  ∃ (j : Nat) (D : DD) (F : List Nat), m = 3 - j ∧ j ≤ 3 ∧ Fr [] w w' ∧ IsD w' b D F ∧ (∀ k ∈ F, sz w ≤ k ∧ k ≠ b7 ∧ k ≠ b8 ∧ k ≠ ob) ∧ CalmN 2 D ∧ D.pend = [] ∧ D.writes ≤ 2 * j ∧ mm w' b7 = pinL p ∧ b7 < sz w' ∧ mm w' b8 = pinL nx ∧ fz w' b8 = false ∧ mm w' ob = pinL (pj p (s0 + j)) ∧ fz w' ob = false ∧
    (1 ≤ j → view D ((s0 + j - 1) % 2) = sealOf (pinB (pj p (s0 + j - 1)))) ∧ (2 ≤ j → view D ((s0 + j - 2) % 2) = sealOf (pinB (pj p (s0 + j - 2)))) ∧
    e 1 = x1 ∧ e 2 = x2 ∧ e 7 = pt b7 0 ∧ e 8 = pt b8 0 ∧ e 9 = pt b 0 ∧ e 11 = pt ob 0 ∧ e 49 = i64 j
theorem crash_step {w : World} {p nx : PinP} {s0 b b7 b8 ob : Nat} {x1 x2 : Value} (hp : okPin p) (hs : 1 ≤ s0) (hs2 : s0 ≤ 549755813888) (hob : sz w ≤ ob) (h78 : b7 ≠ ob ∧ b8 ≠ ob) {m : Nat} {e : Env} {w1 : World} (hI : CrI w p nx s0 b b7 b8 ob x1 x2 m e w1) {K : KT}
    (hN : ∀ m' e' w', m' < m → CrI w p nx s0 b b7 b8 ob x1 x2 m' e' w' → K .normal e' w') (hX : ∀ e' w', CrI w p nx s0 b b7 b8 ob x1 x2 0 e' w' → K (.exit 0) e' w') : F19B0 e w1 K := by
  obtain ⟨j, D, F, hm, hj, hf, hd, hF, hc, hpd, hwr, m7, s7, m8, z8, mo, zo, v1, v2, e1, e2, e7, e8, e9, e11, e49⟩ := hI
  subst hm
  unfold F19B0
  by_cases hjl : j < 3
  · have t1 : (j < 3) = True := eq_true hjl
    have t2 : ((j : Int) < 3) = True := eq_true (by omega)
    obtain ⟨q, hq⟩ : ∃ q, q = pj p (s0 + j) := ⟨_, rfl⟩
    rw [← hq] at mo
    have hqk : okPin q := by rw [hq]; exact ok_pj hp (by omega) (by omega)
    have hqs : q.s = ((s0 + j : Nat) : Int) := by rw [hq]; rfl
    have lq : pLoad P 87 (pt ob 0) w1 = some (pinV q, w1) := pld87 mo
    have hwj : IntKind.i64.wrap ((j : Int) + 1) = ((j + 1 : Nat) : Int) := wrap64 (by omega) (by omega)
    try simp (maxDischargeDepth := 8) [↓sC, sB, sM, letK_def, e9, e11, e49, t1, t2, lq, -ld87]
    refine (put_ok (k := (s0 + j) % 2) hd hc hpd (by omega) hqk (by rw [hqs]; omega) (by omega)).call ?_
    rintro _ w2 ⟨rfl, D2, F2, hd2, hg2, hc2, hp2, hv2, hw2⟩
    have nb : ∀ k, (k = b7 ∨ k = b8 ∨ k = ob) → k ∉ F := fun k hk hkF => by have := hF k hkF; omega
    have so := lt_of_fz zo
    have s8 := lt_of_fz z8
    have mo2 : mm w2 ob = pinL q := by rw [hg2.fr.mm so (nb _ (by omega)), mo]
    have zo2 : fz w2 ob = false := by rw [hg2.fr.fz so (nb _ (by omega)), zo]
    have m72 : mm w2 b7 = pinL p := by rw [hg2.fr.mm s7 (nb _ (by omega)), m7]
    have s72 := hg2.fr.lt s7
    have m82 : mm w2 b8 = pinL nx := by rw [hg2.fr.mm s8 (nb _ (by omega)), m8]
    have z82 : fz w2 b8 = false := by rw [hg2.fr.fz s8 (nb _ (by omega)), z8]
    obtain ⟨ns, hns⟩ : ∃ ns, ns = s0 + j := ⟨_, rfl⟩
    rw [← hns] at hqs hq hv2
    have hn : pLoad P 3 (pt ob 0) w2 = some (i64 (ns : Int), w2) := by rw [ld3 (by rw [mo2, pinL_len]; omega), mo2, pg0, hqs]
    have hws : IntKind.i64.wrap ((ns : Int) + 1) = ((ns + 1 : Nat) : Int) := wrap64 (by omega) (by omega)
    obtain ⟨W3, hW3⟩ : ∃ W3, W3 = wr w2 ob (pinL (pj p (ns + 1))) := ⟨_, rfl⟩
    have fW3 : Fr [ob] w2 W3 := by rw [hW3]; exact (Fr.refl _ w2).wr (.inl (by simp)) _
    have hst : pStore P 3 (pt ob 0) (i64 ((ns + 1 : Nat) : Int)) w2 = some W3 := by
      rw [st3 (by simp) zo2 (by rw [mo2, pinL_len]; omega), mo2, hq, hW3]; rfl
    have g2 : Fr [] w w2 := hf.trans hg2.fr (fun k hk => .inr (hF k hk).1)
    have g3 : Fr [] w W3 := g2.trans fW3 (fun k hk => .inr (by rw [List.mem_singleton] at hk; omega))
    have hF2 : ∀ k ∈ F2, sz w ≤ k ∧ k ≠ b7 ∧ k ≠ b8 ∧ k ≠ ob := fun k hk => by
      rcases hg2.new k hk with h | h
      · exact hF k h
      · have := hf.size; omega
    try simp (maxDischargeDepth := 8) [↓sC, sB, sM, e11, e49, hn, hws, hst, hwj, -ld3, -st3, -Int.natCast_add]
    refine hN (3 - (j + 1)) _ _ (by omega) ⟨j + 1, D2, F2, rfl, by omega, g3, hd2.fr fW3 (fun k hk hk2 => by rw [List.mem_singleton] at hk2; exact (hF2 k hk).2.2.2 hk2), hF2, hc2, hp2, by omega, by rw [hW3, mm_wr_ne h78.1, m72], by rw [hW3, sz_wr]; exact s72, by rw [hW3, mm_wr_ne h78.2, m82], by rw [hW3, fz_wr, z82],
      by rw [hW3, mm_wr_same zo2, show ns + 1 = s0 + (j + 1) by omega], by rw [hW3, fz_wr, zo2], fun _ => ?_, fun h2j => ?_, by simp [put_get, e1], by simp [put_get, e2], by simp [put_get, e7], by simp [put_get, e8], by simp [put_get, e9], by simp [put_get, e11], by simp [put_get]⟩
    · rw [show s0 + (j + 1) - 1 = ns by omega, hv2, if_pos rfl, hq]
    · rw [show s0 + (j + 1) - 2 = s0 + j - 1 by omega, hv2, if_neg (by omega)]; exact v1 (by omega)
  · have t1 : (j < 3) = False := eq_false hjl
    have t2 : ((j : Int) < 3) = False := eq_false (by omega)
    try simp (maxDischargeDepth := 8) [↓sC, sB, sM, e49, t1, t2]
    exact hX _ _ ⟨j, D, F, by omega, hj, hf, hd, hF, hc, hpd, hwr, m7, s7, m8, z8, mo, zo, v1, v2, by simp [put_get, e1], by simp [put_get, e2], by simp [put_get, e7], by simp [put_get, e8], by simp [put_get, e9], by simp [put_get, e11], by simp [put_get, e49]⟩

set_option maxHeartbeats 2000000 in
set_option maxRecDepth 20000 in
theorem pinCrash_law {w : World} {p nx0 : PinP} {at_ : UInt8} {kv : Value} {kept : List Int} (hk : RdV w kv kept.length (kept.map (Value.int .i64))) :
    Ret P 19 #[.agg (pinL p ++ pinL nx0).toArray, bv at_, kv] w fun x w' => x = .bool true ∧ Fr [] w w' := by
  refine F19ok ?_
  unfold F19
  obtain ⟨ka, kc, hkv⟩ := sl_of hk
  have hlk : ∀ w, pBuiltin P .len #[43] 3 [kv] w = some (i64 kept.length, w) := fun w => by rw [hkv]; exact len43
  generalize hva : Value.agg (pinL p ++ pinL nx0).toArray = va
  have hx104 : va.cells.toList = pinL p ++ pinL nx0 := by rw [← hva]; rfl
  obtain ⟨W, hW⟩ : ∃ W, W = nw w (pinL p ++ pinL nx0) 104 := ⟨_, rfl⟩
  have fW : Fr [] w W := by rw [hW]; exact (Fr.refl [] w).nw _ _
  have hW0 : mm W (sz w) = pinL p ++ pinL nx0 := by rw [hW]; simp [sM]
  have hWs : sz W = sz w + 1 := by rw [hW]; simp [sM]
  try simp (maxDischargeDepth := 8) [↓sC, sB, sM, hx104, ← hW]
  refine speaks22.call ?_
  rintro _ w1 ⟨rfl, f1⟩
  have g1 := fW.trans0 f1
  have m1 : mm w1 (sz w) = pinL p ++ pinL nx0 := by rw [f1.mm (by omega) (by simp), hW0]
  have s1 : sz w < sz w1 := f1.lt (by omega)
  try simp (maxDischargeDepth := 8) [↓sC, sB, sM]
  refine drawE_of (fun e' w' => ∃ b7 b8, e' 7 = pt b7 0 ∧ e' 8 = pt b8 0 ∧ b7 ≠ b8 ∧ mm w' b7 = pinL p ∧ fz w' b7 = false ∧ mm w' b8 = pinL nx0 ∧ fz w' b8 = false ∧ sz w ≤ b7 ∧ sz w ≤ b8 ∧ Fr [] w w' ∧ e' 1 = bv at_ ∧ e' 2 = kv) ?_ ?_
  · intro kk kp hkk
    have hlo : ∀ Zw : World, mm Zw (sz w) = pinL p ++ pinL nx0 → pLoad P 87 (pt (sz w) 0) Zw = some (pinV p, Zw) := fun Zw h => twoP_lo h
    have hhi : ∀ Zw : World, mm Zw (sz w) = pinL p ++ pinL nx0 → pLoad P 87 (pt (sz w) 6) Zw = some (pinV nx0, Zw) := fun Zw h => twoP_hi h
    obtain ⟨z, hz⟩ : ∃ z : List Value, z = [Value.int .i64 0, Value.int .i64 0, Value.int .i64 0, Value.int .i64 0, Value.int .i64 0, Value.int .i64 0] := ⟨_, rfl⟩
    have hz6 : z.length = 6 := by rw [hz]; rfl
    have hal : ∀ Zw : World, pAlloc P 87 Zw = some (pt (sz Zw) 0, nw Zw z 87) := fun Zw => by rw [al87, hz]
    have n1 : (sz w = sz w1) = False := eq_false (by omega)
    have n2 : (sz w = sz w1 + 1) = False := eq_false (by omega)
    have n3 : (sz w1 = sz w1 + 1) = False := eq_false (by omega)
    have n4 : (sz w1 + 1 = sz w1) = False := eq_false (by omega)
    have hs1 : ∀ (Zw : World) (x : Nat), (mm Zw x).length = 6 → fz Zw x = false → pStore P 87 (pt x 0) (pinV p) Zw = some (wr Zw x (pinL p)) := fun Zw x h1 h2 => pst87 h1 h2
    have hs2 : ∀ (Zw : World) (x : Nat), (mm Zw x).length = 6 → fz Zw x = false → pStore P 87 (pt x 0) (pinV nx0) Zw = some (wr Zw x (pinL nx0)) := fun Zw x h1 h2 => pst87 h1 h2
    have l0 : pLoad P 87 (pt (sz w) 0) (drew w1) = some (pinV p, drew w1) := hlo _ (by rw [mm_drew, m1])
    have l1 : pLoad P 87 (pt (sz w) 6) (drew w1) = some (pinV nx0, drew w1) := hhi _ (by rw [mm_drew, m1])
    obtain ⟨A1, hA1⟩ : ∃ A1, A1 = nw (drew w1) z 87 := ⟨_, rfl⟩
    obtain ⟨A2, hA2⟩ : ∃ A2, A2 = nw A1 z 87 := ⟨_, rfl⟩
    have a1s : sz A1 = sz w1 + 1 := by rw [hA1]; simp [sM]
    have a2s : sz A2 = sz w1 + 2 := by rw [hA2, sz_nw, a1s]
    have fA1 : Fr [] w1 A1 := by rw [hA1]; exact ((Fr.refl [] w1).drew).nw _ _
    have fA2 : Fr [] w1 A2 := by rw [hA2]; exact fA1.nw _ _
    have a1m : mm A1 (sz w) = pinL p ++ pinL nx0 := by rw [fA1.mm s1 (by simp), m1]
    have a2m : mm A2 (sz w) = pinL p ++ pinL nx0 := by rw [fA2.mm s1 (by simp), m1]
    have c1 : mm A2 (sz w1) = z := by rw [hA2, mm_nw, if_neg (by omega), hA1, mm_nw, sz_drew, if_pos rfl]
    have c1z : fz A2 (sz w1) = false := by rw [hA2, fz_nw, if_neg (by omega), hA1, fz_nw, sz_drew, if_pos rfl]
    have c2 : mm A2 (sz w1 + 1) = z := by rw [hA2, mm_nw, if_pos a1s.symm]
    have c2z : fz A2 (sz w1 + 1) = false := by rw [hA2, fz_nw, if_pos a1s.symm]
    have l2 := hlo A1 a1m
    have l3 := hhi A1 a1m
    have l4 := hlo A2 a2m
    have l5 := hhi A2 a2m
    have hal1 : pAlloc P 87 (drew w1) = some (pt (sz w1) 0, A1) := by rw [hal, sz_drew, hA1]
    have hal2 : pAlloc P 87 A1 = some (pt (sz w1 + 1) 0, A2) := by rw [hal, a1s, hA2]
    obtain ⟨B1, hB1⟩ : ∃ B1, B1 = wr A2 (sz w1) (pinL p) := ⟨_, rfl⟩
    obtain ⟨B2, hB2⟩ : ∃ B2, B2 = wr B1 (sz w1 + 1) (pinL nx0) := ⟨_, rfl⟩
    have st1 : pStore P 87 (pt (sz w1) 0) (pinV p) A2 = some B1 := by rw [hs1 A2 _ (by rw [c1, hz6]) c1z, hB1]
    have st2 : pStore P 87 (pt (sz w1 + 1) 0) (pinV nx0) B1 = some B2 := by rw [hs2 B1 _ (by rw [hB1, mm_wr_ne (by omega), c2, hz6]) (by rw [hB1, fz_wr, c2z]), hB2]
    have fB1 : Fr [] w1 B1 := by rw [hB1]; exact fA2.wr (.inr (Nat.le_refl _)) _
    have fB2 : Fr [] w1 B2 := by rw [hB2]; exact fB1.wr (.inr (by omega)) _
    have l6 := hhi B1 (by rw [fB1.mm s1 (by simp), m1])
    have l6a := hlo B1 (by rw [fB1.mm s1 (by simp), m1])
    obtain ⟨C1, hC1⟩ : ∃ C1, C1 = wr A2 (sz w1 + 1) (pinL p) := ⟨_, rfl⟩
    obtain ⟨C2, hC2⟩ : ∃ C2, C2 = wr C1 (sz w1) (pinL nx0) := ⟨_, rfl⟩
    have st3 : pStore P 87 (pt (sz w1 + 1) 0) (pinV p) A2 = some C1 := by rw [hs1 A2 _ (by rw [c2, hz6]) c2z, hC1]
    have st4 : pStore P 87 (pt (sz w1) 0) (pinV nx0) C1 = some C2 := by rw [hs2 C1 _ (by rw [hC1, mm_wr_ne (by omega), c1, hz6]) (by rw [hC1, fz_wr, c1z]), hC2]
    have fC1 : Fr [] w1 C1 := by rw [hC1]; exact fA2.wr (.inr (by omega)) _
    have fC2 : Fr [] w1 C2 := by rw [hC2]; exact fC1.wr (.inr (Nat.le_refl _)) _
    have l7 := hhi C1 (by rw [fC1.mm s1 (by simp), m1])
    have l7a := hlo C1 (by rw [fC1.mm s1 (by simp), m1])
    have hA1e : A1 = nw (drew w1) [Value.int .i64 0, Value.int .i64 0, Value.int .i64 0, Value.int .i64 0, Value.int .i64 0, Value.int .i64 0] 87 := by rw [hA1, hz]
    have hA2e : A2 = nw A1 [Value.int .i64 0, Value.int .i64 0, Value.int .i64 0, Value.int .i64 0, Value.int .i64 0, Value.int .i64 0] 87 := by rw [hA2, hz]
    try simp (maxDischargeDepth := 8) [↓sC, sB, sM, ← hA1e, ← hA2e, l0, l1, l2, l3, l4, l5, l6, l6a, l7, l7a, st1, st2, st3, st4, -al87, -st87, -ld87]
    constructor
    · refine hkk _ _ ?_
      exact ⟨sz w1, sz w1 + 1, by simp [put_get], by simp [put_get], by omega, by rw [hB2, mm_wr_ne (by omega), hB1, mm_wr_same c1z], by rw [hB2, fz_wr, hB1, fz_wr, c1z], by rw [hB2, mm_wr_same (by rw [hB1, fz_wr, c2z])], by rw [hB2, fz_wr, hB1, fz_wr, c2z], by omega, by omega, g1.trans0 fB2, by simp [put_get, argE_get], by simp [put_get, argE_get]⟩
    · refine hkk _ _ ?_
      exact ⟨sz w1 + 1, sz w1, by simp [put_get], by simp [put_get], by omega, by rw [hC2, mm_wr_ne (by omega), hC1, mm_wr_same c2z], by rw [hC2, fz_wr, hC1, fz_wr, c2z], by rw [hC2, mm_wr_same (by rw [hC1, fz_wr, c1z])], by rw [hC2, fz_wr, hC1, fz_wr, c1z], by omega, by omega, g1.trans0 fC2, by simp [put_get, argE_get], by simp [put_get, argE_get]⟩
  rintro e2 w2 ⟨b7, b8, e7, e8, hbb, m7, z7, m8, z8, h7w, h8w, g2, e1, ex2⟩
  have s7 := lt_of_fz z7
  have s8 := lt_of_fz z8
  have hn7 : pLoad P 3 (pt b7 0) w2 = some (i64 p.s, w2) := by rw [ld3 (by rw [m7, pinL_len]; omega), m7, pg0]
  obtain ⟨nx, hnx⟩ : ∃ nx : PinP, nx = { nx0 with s := p.s } := ⟨_, rfl⟩
  obtain ⟨W3, hW3⟩ : ∃ W3, W3 = wr w2 b8 (pinL nx) := ⟨_, rfl⟩
  have hst3 : pStore P 3 (pt b8 0) (i64 p.s) w2 = some W3 := by rw [st3 (by simp) z8 (by rw [m8, pinL_len]; omega), m8, hW3, hnx]; rfl
  have g3 : Fr [] w W3 := by rw [hW3]; exact g2.wr (.inr h8w) _
  have n7 : mm W3 b7 = pinL p := by rw [hW3, mm_wr_ne hbb, m7]
  have s73 : b7 < sz W3 := by rw [hW3, sz_wr]; exact s7
  have n8 : mm W3 b8 = pinL nx := by rw [hW3, mm_wr_same z8]
  have y8 : fz W3 b8 = false := by rw [hW3, fz_wr, z8]
  have l7 : pLoad P 87 (pt b7 0) W3 = some (pinV p, W3) := pld87 n7
  try simp (maxDischargeDepth := 8) [↓sC, sB, sM, e7, e8, hn7, hst3, l7, -ld3, -st3, -ld87]
  have hck := check_spec (w := W3) (p := p)
  refine hck.call ?_
  rintro _ w4 ⟨rfl, f4⟩
  have g4 := g3.trans0 f4
  by_cases hkp : okPin p
  case neg =>
    rw [if_neg hkp]
    try simp (maxDischargeDepth := 8) [↓sC, sB, sM]
    exact g4
  rw [if_pos hkp]
  have n84 : mm w4 b8 = pinL nx := by rw [f4.mm (lt_of_fz y8) (by simp), n8]
  have l8 : pLoad P 87 (pt b8 0) w4 = some (pinV nx, w4) := pld87 n84
  try simp (maxDischargeDepth := 8) [↓sC, sB, sM, e8, l8, -ld87]
  have hck2 := check_spec (w := w4) (p := nx)
  refine hck2.call ?_
  rintro _ w5 ⟨rfl, f5⟩
  have g5 := g4.trans0 f5
  by_cases hkn : okPin nx
  case neg =>
    rw [if_neg hkn]
    try simp (maxDischargeDepth := 8) [↓sC, sB, sM]
    exact g5
  rw [if_pos hkn]
  have q35 := f4.trans0 f5
  have n75 : mm w5 b7 = pinL p := by rw [q35.mm s73 (by simp), n7]
  have hn75 : pLoad P 3 (pt b7 0) w5 = some (i64 p.s, w5) := by rw [ld3 (by rw [n75, pinL_len]; omega), n75, pg0]
  by_cases hbig : 549755813888 < p.s
  · have d1 : (549755813888 < p.s) = True := eq_true hbig
    try simp (maxDischargeDepth := 8) [↓sC, sB, sM, e7, hn75, d1, -ld3]
    exact g5
  have d1 : (549755813888 < p.s) = False := eq_false hbig
  by_cases hk20 : 20 < kept.length
  · have d2 : (20 < kept.length) = True := eq_true hk20
    have d3 : ((20 : Int) < kept.length) = True := eq_true (by omega)
    try simp (maxDischargeDepth := 8) [↓sC, sB, sM, e7, ex2, hn75, d1, hlk, d2, d3, -ld3]
    exact g5
  have d2 : (20 < kept.length) = False := eq_false hk20
  have d3 : ((20 : Int) < kept.length) = False := eq_false (by omega)
  have hnew : Ret P 27 #[i64 2] w5 _ := new_spec (w := w5) (n := 2) (by omega) (by omega)
  try simp (maxDischargeDepth := 8) [↓sC, sB, sM, e7, ex2, hn75, d1, hlk, d2, d3, -ld3]
  refine hnew.call ?_
  rintro _ w6 ⟨b, F, rfl, hd6, f6, hF⟩
  have g6 := g5.trans0 f6
  obtain ⟨s0, hs0⟩ : ∃ s0 : Nat, p.s = (s0 : Int) := ⟨p.s.toNat, by have := hkp.1; omega⟩
  have hs1 : 1 ≤ s0 := by have := hkp.1; omega
  have hpj : p = pj p s0 := by unfold pj; rw [← hs0]
  have n76 : mm w6 b7 = pinL p := by rw [f6.mm (q35.lt s73) (by simp), n75]
  have s76 := f6.lt (q35.lt s73)
  have q36 := q35.trans0 f6
  have n86 : mm w6 b8 = pinL nx := by rw [q36.mm (lt_of_fz y8) (by simp), n8]
  have y86 : fz w6 b8 = false := by rw [q36.fz (lt_of_fz y8) (by simp), y8]
  have l76 : pLoad P 87 (pt b7 0) w6 = some (pinV p, w6) := pld87 n76
  obtain ⟨X, hX⟩ : ∃ X, X = wr (nw w6 (pinL zPin) 87) (sz w6) (pinL p) := ⟨_, rfl⟩
  have fX : Fr [] w6 X := by rw [hX]; exact ((Fr.refl [] w6).nw _ _).wr (.inr (Nat.le_refl _)) _
  have xm : mm X (sz w6) = pinL p := by rw [hX, mm_wr_same (by simp [sM])]
  have xz : fz X (sz w6) = false := by rw [hX]; simp [sM]
  have stX : pStore P 87 (pt (sz w6) 0) (pinV p) (nw w6 [Value.int .i64 0, Value.int .i64 0, Value.int .i64 0, Value.int .i64 0, Value.int .i64 0, Value.int .i64 0] 87) = some X := by rw [hX]; exact pst87 (by simp [sM]) (by simp [sM])
  try simp (maxDischargeDepth := 8) [↓sC, sB, sM, e7, l76, stX, -st87, -ld87]
  have h87 : b7 < sz w6 := s76
  have h88 : b8 < sz w6 := lt_of_fz y86
  have hb5 : b7 < sz w5 := q35.lt s73
  have hb58 : b8 < sz w5 := q35.lt (lt_of_fz y8)
  have hFw : ∀ k ∈ F, sz w ≤ k ∧ k ≠ b7 ∧ k ≠ b8 ∧ k ≠ sz w6 := fun k hk => by have := hF k hk; have := hd6.ltP k hk; have := g5.size; omega
  refine loopE_of (CrI w p nx s0 b b7 b8 (sz w6) (bv at_) kv) 3 ⟨0, newD 2, F, by omega, by omega, g6.trans0 fX, hd6.fr0 fX, hFw, newN_calm 2, rfl, by simp [newD], by rw [fX.mm h87 (by simp), n76], fX.lt h87, by rw [fX.mm h88 (by simp), n86], by rw [fX.fz h88 (by simp), y86], by rw [xm, Nat.add_zero, ← hpj], xz,
    fun h => by omega, fun h => by omega, by simp [put_get, e1], by simp [put_get, ex2], by simp [put_get, e7], by simp [put_get, e8], by simp [put_get], by simp [put_get], by simp [put_get]⟩ ?_
  intro m e w7 hI
  refine crash_step hkp hs1 (by omega) g6.size ⟨by omega, by omega⟩ hI (fun m' e' w' hlt hI' => ⟨m', hlt, hI'⟩) (fun e' w8 hI' => ?_)
  obtain ⟨j, D, F8, hj0, hj, g8, hd8, hF8, hc8, hp8, hw8, m78, s78, m88, z88, mo, zo, v1, v2, a1, a2, a7, a8, a9, a11, a49⟩ := hI'
  obtain rfl : j = 3 := by omega
  obtain ⟨ob, hob⟩ : ∃ ob, ob = sz w6 := ⟨_, rfl⟩
  rw [← hob] at mo zo hF8 a11
  have hobw : sz w ≤ ob := by rw [hob]; exact g6.size
  have h7o : b7 ≠ ob := by omega
  have h8o : b8 ≠ ob := by omega
  have v1 := v1 (by omega)
  have v2 := v2 (by omega)
  rw [show s0 + 3 - 1 = s0 + 2 by omega] at v1
  rw [show s0 + 3 - 2 = s0 + 1 by omega] at v2
  obtain ⟨old, hold⟩ : ∃ old, old = pj p (s0 + 2) := ⟨_, rfl⟩
  obtain ⟨one, hone⟩ : ∃ one, one = pj p (s0 + 1) := ⟨_, rfl⟩
  obtain ⟨nxt, hnxt⟩ : ∃ nxt, nxt = pj nx (s0 + 3) := ⟨_, rfl⟩
  have kold : okPin old := by rw [hold]; exact ok_pj hkp (by omega) (by omega)
  have kone : okPin one := by rw [hone]; exact ok_pj hkp (by omega) (by omega)
  have knxt : okPin nxt := by rw [hnxt]; exact ok_pj hkn (by omega) (by omega)
  have os : old.s = ((s0 + 2 : Nat) : Int) := by rw [hold]; rfl
  have ns : nxt.s = ((s0 + 3 : Nat) : Int) := by rw [hnxt]; rfl
  have ones : one.s = ((s0 + 1 : Nat) : Int) := by rw [hone]; rfl
  rw [← hold] at v1
  rw [← hone] at v2
  obtain ⟨t3, ht3⟩ : ∃ t3, t3 = s0 + 3 := ⟨_, rfl⟩
  have so8 := lt_of_fz zo
  have hn3 : pLoad P 3 (pt ob 0) w8 = some (i64 (t3 : Int), w8) := by rw [ld3 (by rw [mo, pinL_len]; omega), mo, pg0, ht3]; rfl
  obtain ⟨t2, ht2⟩ : ∃ t2, t2 = s0 + 2 := ⟨_, rfl⟩
  have hw3 : IntKind.i64.wrap ((t3 : Int) - 1) = (t2 : Int) := by rw [wrap64 (by omega) (by omega)]; omega
  have hw2 : IntKind.i64.wrap ((t2 : Int) + 1) = (t3 : Int) := by rw [wrap64 (by omega) (by omega)]; omega
  obtain ⟨W9, hW9⟩ : ∃ W9, W9 = wr w8 ob (pinL old) := ⟨_, rfl⟩
  have hst9 : pStore P 3 (pt ob 0) (i64 (t2 : Int)) w8 = some W9 := by rw [st3 (by simp) zo (by rw [mo, pinL_len]; omega), mo, hW9, hold, ← ht2]; rfl
  have fW9 : Fr [ob, b8] w8 W9 := by rw [hW9]; exact (Fr.refl _ w8).wr (.inl (by simp)) _
  have mo9 : mm W9 ob = pinL old := by rw [hW9, mm_wr_same zo]
  have zo9 : fz W9 ob = false := by rw [hW9, fz_wr, zo]
  have hn9 : pLoad P 3 (pt ob 0) W9 = some (i64 (t2 : Int), W9) := by rw [ld3 (by rw [mo9, pinL_len]; omega), mo9, pg0, os, ht2]
  have m89 : mm W9 b8 = pinL nx := by rw [hW9, mm_wr_ne h8o, m88]
  have z89 : fz W9 b8 = false := by rw [hW9, fz_wr, z88]
  obtain ⟨W10, hW10⟩ : ∃ W10, W10 = wr W9 b8 (pinL nxt) := ⟨_, rfl⟩
  have hst10 : pStore P 3 (pt b8 0) (i64 (t3 : Int)) W9 = some W10 := by rw [st3 (by simp) z89 (by rw [m89, pinL_len]; omega), m89, hW10, hnxt, ← ht3]; rfl
  have fW10 : Fr [ob, b8] w8 W10 := by rw [hW10]; exact fW9.wr (.inl (by simp)) _
  have mo10 : mm W10 ob = pinL old := by rw [hW10, mm_wr_ne (Ne.symm h8o), mo9]
  have so10 : ob < sz W10 := by rw [hW10, sz_wr]; exact lt_of_fz zo9
  have m810 : mm W10 b8 = pinL nxt := by rw [hW10, mm_wr_same z89]
  have s810 : b8 < sz W10 := by rw [hW10, sz_wr]; exact lt_of_fz z89
  have g10 : Fr [] w W10 := g8.trans fW10 (fun k hk => .inr (by simp at hk; omega))
  obtain ⟨kb, hkb⟩ : ∃ kb, kb = at_.toNat % 4 := ⟨_, rfl⟩
  have hcv : ∀ w, pConv P 5 3 (bv at_) w = some (i64 (at_.toNat : Int), w) := fun w => by
    rw [pConv_int (k := .u8) (k' := .i64) tyOk5 intK3, wrap64 (by omega) (by have := at_.toNat_lt; omega)]
  have hr4 : ∀ w, pBin P .rem 3 true (i64 (at_.toNat : Int)) (Value.int .i64 4) w = some (i64 (kb : Int), w) := fun w => by
    rw [pBin_rem (by omega), Int.tmod_eq_emod_of_nonneg (by omega), hkb]; rfl
  try simp (maxDischargeDepth := 8) [↓sC, sB, sM, a1, a8, a9, a11, hn3, hw3, hst9, hn9, hw2, hst10, hcv, hr4, -ld3, -st3]
  have hd10 : IsD W10 b D F8 := hd8.fr fW10 (fun k hk hk2 => by have := hF8 k hk; simp at hk2; omega)
  refine (break_spec (n := (kb : Int)) hd10 (by omega)).call ?_
  rintro _ w11 ⟨hd11, f11⟩
  have nF8 : ∀ k, (k = b8 ∨ k = ob) → k ∉ F8 := fun k hk hkF => by have := hF8 k hkF; omega
  have m811 : mm w11 b8 = pinL nxt := by rw [f11.mm s810 (nF8 _ (by omega)), m810]
  have s811 := f11.lt s810
  have mo11 : mm w11 ob = pinL old := by rw [f11.mm so10 (nF8 _ (by omega)), mo10]
  have so11 := f11.lt so10
  have l811 : pLoad P 87 (pt b8 0) w11 = some (pinV nxt, w11) := pld87 m811
  have g11 : Fr [] w w11 := g10.trans f11 (fun k hk => .inr (hF8 k hk).1)
  try simp (maxDischargeDepth := 8) [↓sC, sB, sM, a8, a9, l811, -ld87]
  obtain ⟨kA, hkA⟩ : ∃ kA, kA = (s0 + 3) % 2 := ⟨_, rfl⟩
  obtain ⟨D4, c, hput, hcC, hpC, hwC, hvo, hpl4, hout⟩ := put_crash (D := D) (k := kA) (n := kb) (old := old) (one := one) (nx := nxt) kept hc8 hp8 (by omega) (by omega) knxt (by rw [ns]; omega) kone (by rw [os, ones]; omega) (by rw [hkA, show (s0 + 3) % 2 = (s0 + 1) % 2 by omega]; exact v2) (by omega)
  have hps := put_spec (p := nxt) hd11 (by show D.pend.length + 10 < _; rw [hp8]; simp) (by show D.writes + 10 < _; omega)
  rw [hput] at hps
  refine hps.call ?_
  rintro _ w12 ⟨rfl, F12, hd12, hg12⟩
  have hF12 : ∀ k ∈ F12, sz w ≤ k ∧ k ≠ b8 ∧ k ≠ ob := fun k hk => by
    rcases hg12.new k hk with h | h
    · have := hF8 k h; omega
    · have := g11.size; omega
  have m812 : mm w12 b8 = pinL nxt := by rw [hg12.fr.mm s811 (nF8 _ (by omega)), m811]
  have s812 := hg12.fr.lt s811
  have mo12 : mm w12 ob = pinL old := by rw [hg12.fr.mm so11 (nF8 _ (by omega)), mo11]
  have so12 := hg12.fr.lt so11
  have g12 : Fr [] w w12 := g11.trans hg12.fr (fun k hk => .inr (hF8 k hk).1)
  have hkF : ∀ k, kv.ownBlock = some k → k ∈ F12 → kept.length = 0 := fun k hk1 hk2 => by
    have := (hF12 k hk2).1
    rcases id hk with ⟨_, _, _, h1, _⟩ | ⟨b1, o1, c1, h1, _, _, h2, _⟩
    · exact h1
    · subst h1
      have : b1 = k := by simpa [Value.ownBlock] using hk1
      omega
  try simp (maxDischargeDepth := 8) [↓sC, sB, sM, a2, a9]
  refine (crash_spec (kept := kept) hd12 (hk.fr0 g12) hkF).call ?_
  rintro _ w13 ⟨hd13, f13⟩
  have nF12 : ∀ k, (k = b8 ∨ k = ob) → k ∉ F12 := fun k hk hkF => by have := hF12 k hkF; omega
  have m813 : mm w13 b8 = pinL nxt := by rw [f13.mm s812 (nF12 _ (by omega)), m812]
  have s813 := f13.lt s812
  have mo13 : mm w13 ob = pinL old := by rw [f13.mm so12 (nF12 _ (by omega)), mo12]
  have so13 := f13.lt so12
  have g13 : Fr [] w w13 := g12.trans f13 (fun k hk => .inr (hF12 k hk).1)
  obtain ⟨D5, hD5⟩ : ∃ D5, D5 = crashD D4 kept := ⟨_, rfl⟩
  rw [← hD5] at hcC hpC hwC hvo hout hd13
  have vB : view D5 ((s0 + 2) % 2) = sealOf (pinB old) := by rw [hvo _ (by omega)]; exact v1
  have sec_ab : ∀ (k : Nat), k < 2 → (if k = 0 then view D5 0 else view D5 1) = view D5 k := fun k hk2 => by
    match k, hk2 with
    | 0, _ => rfl
    | 1, _ => rfl
  have sec_ba : ∀ (k : Nat), k < 2 → (if k = 0 then view D5 1 else view D5 0) = view D5 (1 - k) := fun k hk2 => by
    match k, hk2 with
    | 0, _ => rfl
    | 1, _ => rfl
  -- which pin is told
  have hq : ∃ qq : PinP, getM (view D5 0) (view D5 1) = some qq ∧ okPin qq ∧ ((qq = nxt ∧ view D5 kA = sealOf (pinB nxt)) ∨ (qq = old ∧ c ≠ 0)) := by
    rcases hout with hA | ⟨hc0, hA⟩
    · refine ⟨nxt, ?_, knxt, .inl ⟨rfl, hA⟩⟩
      refine get_top (k := kA) (by omega) knxt (by rw [ns]; omega) (by rw [sec_ab _ (by omega)]; exact hA) (fun x hx => ?_)
      rw [sec_ba _ (by omega), show 1 - kA = (s0 + 2) % 2 by omega, vB, ofM_seal kold] at hx
      have := (sideM_some hx).1
      simp only [Option.some.injEq] at this
      subst this
      rw [os, ns]; omega
    · refine ⟨old, ?_, kold, .inr ⟨rfl, hc0⟩⟩
      refine get_top (k := (s0 + 2) % 2) (by omega) kold (by rw [os]; omega) (by rw [sec_ab _ (by omega)]; exact vB) (fun x hx => ?_)
      rw [sec_ba _ (by omega), show 1 - (s0 + 2) % 2 = kA by omega] at hx
      exact hA x (sideM_some hx).1
  obtain ⟨qq, hget, kqq, hqq⟩ := hq
  try simp (maxDischargeDepth := 8) [↓sC, sB, sM, a9]
  refine (get_spec hd13 (reach_calm hcC (by omega))).call ?_
  rintro x14 w14 ⟨hx14, f14⟩
  rw [hget] at hx14
  obtain rfl : x14 = .tuple #[pinV qq, i64 0] := by
    rcases hx14 with ⟨q', hq', hx⟩ | ⟨hno, _⟩
    · simp only [Option.some.injEq] at hq'; subst hq'; exact hx
    · cases hno
  obtain ⟨Y, hY⟩ : ∃ Y, Y = wr (nw w14 (pinL zPin) 87) (sz w14) (pinL qq) := ⟨_, rfl⟩
  have fY : Fr [] w14 Y := by rw [hY]; exact ((Fr.refl [] w14).nw _ _).wr (.inr (Nat.le_refl _)) _
  have ym : mm Y (sz w14) = pinL qq := by rw [hY, mm_wr_same (by simp [sM])]
  have yz : fz Y (sz w14) = false := by rw [hY]; simp [sM]
  have stY : pStore P 87 (pt (sz w14) 0) (pinV qq) (nw w14 [Value.int .i64 0, Value.int .i64 0, Value.int .i64 0, Value.int .i64 0, Value.int .i64 0, Value.int .i64 0] 87) = some Y := by rw [hY]; exact pst87 (by simp [sM]) (by simp [sM])
  have q14 := f14.trans0 fY
  have lY : pLoad P 87 (pt (sz w14) 0) Y = some (pinV qq, Y) := pld87 ym
  have lo : pLoad P 87 (pt ob 0) Y = some (pinV old, Y) := pld87 (by rw [q14.mm so13 (by simp), mo13])
  have l8Y : pLoad P 87 (pt b8 0) Y = some (pinV nxt, Y) := pld87 (by rw [q14.mm s813 (by simp), m813])
  have g14 := g13.trans0 q14
  -- the next one
  obtain ⟨sq, hsq⟩ : ∃ sq : Nat, qq.s = (sq : Int) := ⟨qq.s.toNat, by have := kqq.1; omega⟩
  have hsq2 : s0 + 2 ≤ sq ∧ sq ≤ s0 + 3 := by
    rcases hqq with ⟨rfl, _⟩ | ⟨rfl, _⟩
    · rw [ns] at hsq; omega
    · rw [os] at hsq; omega
  obtain ⟨qn, hqn⟩ : ∃ qn, qn = pj qq (sq + 1) := ⟨_, rfl⟩
  have kqn : okPin qn := by rw [hqn]; exact ok_pj kqq (by omega) (by omega)
  have qns : qn.s = ((sq + 1 : Nat) : Int) := by rw [hqn]; rfl
  have hwq : IntKind.i64.wrap ((sq : Int) + 1) = ((sq + 1 : Nat) : Int) := wrap64 (by omega) (by omega)
  have hnY : pLoad P 3 (pt (sz w14) 0) Y = some (i64 (sq : Int), Y) := by rw [ld3 (by rw [ym, pinL_len]; omega), ym, pg0, hsq]
  obtain ⟨V, hV⟩ : ∃ V, V = wr Y (sz w14) (pinL qn) := ⟨_, rfl⟩
  have hstV : pStore P 3 (pt (sz w14) 0) (i64 ((sq + 1 : Nat) : Int)) Y = some V := by rw [st3 (by simp) yz (by rw [ym, pinL_len]; omega), ym, hV, hqn]; rfl
  have fV : Fr [] w14 V := by rw [hV]; exact fY.wr (.inr (Nat.le_refl _)) _
  have vm : mm V (sz w14) = pinL qn := by rw [hV, mm_wr_same yz]
  have vs : sz w14 < sz V := by rw [hV, sz_wr]; exact lt_of_fz yz
  have lV : pLoad P 87 (pt (sz w14) 0) V = some (pinV qn, V) := pld87 vm
  have qV := f14.trans0 fV
  have gV := g13.trans0 qV
  have hps2 := put_ok (p := qn) (k := (sq + 1) % 2) (hd13.fr0 qV) hcC hpC (by omega) kqn (by rw [qns]; omega) (by omega)
  have hgn : ∀ D6 : DD, (∀ i, view D6 i = if i = (sq + 1) % 2 then sealOf (pinB qn) else view D5 i) → getM (view D6 0) (view D6 1) = some qn := fun D6 hv6 => by
    have e1 : (if (sq + 1) % 2 = 0 then view D6 0 else view D6 1) = view D6 ((sq + 1) % 2) := by
      by_cases hz : (sq + 1) % 2 = 0
      · rw [if_pos hz, hz]
      · rw [if_neg hz, show (sq + 1) % 2 = 1 by omega]
    have e2 : (if (sq + 1) % 2 = 0 then view D6 1 else view D6 0) = view D6 (sq % 2) := by
      by_cases hz : (sq + 1) % 2 = 0
      · rw [if_pos hz, show sq % 2 = 1 by omega]
      · rw [if_neg hz, show sq % 2 = 0 by omega]
    refine get_top (k := (sq + 1) % 2) (by omega) kqn (by rw [qns]; omega) (by rw [e1, hv6, if_pos rfl]) (fun x hx => ?_)
    rw [e2, hv6, if_neg (by omega)] at hx
    have hvq : view D5 (sq % 2) = sealOf (pinB qq) := by
      rcases hqq with ⟨rfl, hA⟩ | ⟨rfl, _⟩
      · rw [ns] at hsq
        rw [show sq % 2 = kA by omega]; exact hA
      · rw [os] at hsq
        rw [show sq % 2 = (s0 + 2) % 2 by omega]; exact vB
    rw [hvq, ofM_seal kqq] at hx
    have := (sideM_some hx).1
    simp only [Option.some.injEq] at this
    subst this
    rw [hsq, qns]; omega
  have hF13' : ∀ k ∈ F12, k ≠ sz w14 := fun k hk => by have := hd13.ltP k hk; have := f14.size; omega
  rcases hqq with ⟨hqe, hA⟩ | ⟨hqe, hc0⟩
  · have ne1 : ∀ w, pBin P .neq 87 false (pinV qq) (pinV old) w = some (.bool true, w) := fun w => by rw [nePin, decide_eq_false (fun hh => by have := congrArg PinP.s hh; rw [hqe, ns, os] at this; omega)]; rfl
    have ne2 : ∀ w, pBin P .neq 87 false (pinV qq) (pinV nxt) w = some (.bool false, w) := fun w => by rw [nePin, decide_eq_true hqe]; rfl
    by_cases hc1 : c = 0
    · have d5 : (c = 0) = True := eq_true hc1
      try simp (maxDischargeDepth := 8) [↓sC, sB, sM, d5, stY, a8, a9, a11, lY, lo, l8Y, ne1, ne2, hnY, hwq, hstV, lV, -st87, -ld87, -ld3, -st3, -Int.natCast_add]
      refine hps2.call ?_
      rintro _ w15 ⟨rfl, D6, F15, hd15, hg15, hc15, hp15, hv15, hw15⟩
      have vm15 : mm w15 (sz w14) = pinL qn := by rw [hg15.fr.mm vs (fun hk => hF13' _ hk rfl), vm]
      have vs15 := hg15.fr.lt vs
      have g15 : Fr [] w w15 := gV.trans hg15.fr (fun k hk => .inr (hF12 k hk).1)
      try simp (maxDischargeDepth := 8) [↓sC, sB, sM, a9]
      refine (get_spec hd15 (reach_calm hc15 (by omega))).call ?_
      rintro x16 w16 ⟨hx16, f16⟩
      rw [hgn D6 hv15] at hx16
      obtain rfl : x16 = .tuple #[pinV qn, i64 0] := by
        rcases hx16 with ⟨q', hq', hx⟩ | ⟨hno, _⟩
        · simp only [Option.some.injEq] at hq'; subst hq'; exact hx
        · cases hno
      obtain ⟨U, hU⟩ : ∃ U, U = wr (nw w16 (pinL zPin) 87) (sz w16) (pinL qn) := ⟨_, rfl⟩
      have fU : Fr [] w16 U := by rw [hU]; exact ((Fr.refl [] w16).nw _ _).wr (.inr (Nat.le_refl _)) _
      have um : mm U (sz w16) = pinL qn := by rw [hU, mm_wr_same (by simp [sM])]
      have stU : pStore P 87 (pt (sz w16) 0) (pinV qn) (nw w16 [Value.int .i64 0, Value.int .i64 0, Value.int .i64 0, Value.int .i64 0, Value.int .i64 0, Value.int .i64 0] 87) = some U := by rw [hU]; exact pst87 (by simp [sM]) (by simp [sM])
      have q16 := f16.trans0 fU
      have lU : pLoad P 87 (pt (sz w16) 0) U = some (pinV qn, U) := pld87 um
      have lU2 : pLoad P 87 (pt (sz w14) 0) U = some (pinV qn, U) := pld87 (by rw [q16.mm vs15 (by simp), vm15])
      have heq : ∀ w, pBin P .eql 87 false (pinV qn) (pinV qn) w = some (.bool true, w) := fun w => by rw [eqPin]; simp
      try simp (maxDischargeDepth := 8) [↓sC, sB, sM, stU, lU, lU2, heq, -st87, -ld87]
      exact g15.trans0 q16
    · have d5 : (c = 0) = False := eq_false hc1
      try simp (maxDischargeDepth := 8) [↓sC, sB, sM, d5, stY, a8, a9, a11, lY, lo, l8Y, ne1, ne2, hnY, hwq, hstV, lV, -st87, -ld87, -ld3, -st3, -Int.natCast_add]
      refine hps2.call ?_
      rintro _ w15 ⟨rfl, D6, F15, hd15, hg15, hc15, hp15, hv15, hw15⟩
      have vm15 : mm w15 (sz w14) = pinL qn := by rw [hg15.fr.mm vs (fun hk => hF13' _ hk rfl), vm]
      have vs15 := hg15.fr.lt vs
      have g15 : Fr [] w w15 := gV.trans hg15.fr (fun k hk => .inr (hF12 k hk).1)
      try simp (maxDischargeDepth := 8) [↓sC, sB, sM, a9]
      refine (get_spec hd15 (reach_calm hc15 (by omega))).call ?_
      rintro x16 w16 ⟨hx16, f16⟩
      rw [hgn D6 hv15] at hx16
      obtain rfl : x16 = .tuple #[pinV qn, i64 0] := by
        rcases hx16 with ⟨q', hq', hx⟩ | ⟨hno, _⟩
        · simp only [Option.some.injEq] at hq'; subst hq'; exact hx
        · cases hno
      obtain ⟨U, hU⟩ : ∃ U, U = wr (nw w16 (pinL zPin) 87) (sz w16) (pinL qn) := ⟨_, rfl⟩
      have fU : Fr [] w16 U := by rw [hU]; exact ((Fr.refl [] w16).nw _ _).wr (.inr (Nat.le_refl _)) _
      have um : mm U (sz w16) = pinL qn := by rw [hU, mm_wr_same (by simp [sM])]
      have stU : pStore P 87 (pt (sz w16) 0) (pinV qn) (nw w16 [Value.int .i64 0, Value.int .i64 0, Value.int .i64 0, Value.int .i64 0, Value.int .i64 0, Value.int .i64 0] 87) = some U := by rw [hU]; exact pst87 (by simp [sM]) (by simp [sM])
      have q16 := f16.trans0 fU
      have lU : pLoad P 87 (pt (sz w16) 0) U = some (pinV qn, U) := pld87 um
      have lU2 : pLoad P 87 (pt (sz w14) 0) U = some (pinV qn, U) := pld87 (by rw [q16.mm vs15 (by simp), vm15])
      have heq : ∀ w, pBin P .eql 87 false (pinV qn) (pinV qn) w = some (.bool true, w) := fun w => by rw [eqPin]; simp
      try simp (maxDischargeDepth := 8) [↓sC, sB, sM, stU, lU, lU2, heq, -st87, -ld87]
      exact g15.trans0 q16
  · have ne1 : ∀ w, pBin P .neq 87 false (pinV qq) (pinV old) w = some (.bool false, w) := fun w => by rw [nePin, decide_eq_true hqe]; rfl
    have ne2 : ∀ w, pBin P .neq 87 false (pinV qq) (pinV nxt) w = some (.bool true, w) := fun w => by rw [nePin, decide_eq_false (fun hh => by have := congrArg PinP.s hh; rw [hqe, ns, os] at this; omega)]; rfl
    have d5 : (c = 0) = False := eq_false hc0
    try simp (maxDischargeDepth := 8) [↓sC, sB, sM, d5, stY, a8, a9, a11, lY, lo, l8Y, ne1, ne2, hnY, hwq, hstV, lV, -st87, -ld87, -ld3, -st3, -Int.natCast_add]
    refine hps2.call ?_
    rintro _ w15 ⟨rfl, D6, F15, hd15, hg15, hc15, hp15, hv15, hw15⟩
    have vm15 : mm w15 (sz w14) = pinL qn := by rw [hg15.fr.mm vs (fun hk => hF13' _ hk rfl), vm]
    have vs15 := hg15.fr.lt vs
    have g15 : Fr [] w w15 := gV.trans hg15.fr (fun k hk => .inr (hF12 k hk).1)
    try simp (maxDischargeDepth := 8) [↓sC, sB, sM, a9]
    refine (get_spec hd15 (reach_calm hc15 (by omega))).call ?_
    rintro x16 w16 ⟨hx16, f16⟩
    rw [hgn D6 hv15] at hx16
    obtain rfl : x16 = .tuple #[pinV qn, i64 0] := by
      rcases hx16 with ⟨q', hq', hx⟩ | ⟨hno, _⟩
      · simp only [Option.some.injEq] at hq'; subst hq'; exact hx
      · cases hno
    obtain ⟨U, hU⟩ : ∃ U, U = wr (nw w16 (pinL zPin) 87) (sz w16) (pinL qn) := ⟨_, rfl⟩
    have fU : Fr [] w16 U := by rw [hU]; exact ((Fr.refl [] w16).nw _ _).wr (.inr (Nat.le_refl _)) _
    have um : mm U (sz w16) = pinL qn := by rw [hU, mm_wr_same (by simp [sM])]
    have stU : pStore P 87 (pt (sz w16) 0) (pinV qn) (nw w16 [Value.int .i64 0, Value.int .i64 0, Value.int .i64 0, Value.int .i64 0, Value.int .i64 0, Value.int .i64 0] 87) = some U := by rw [hU]; exact pst87 (by simp [sM]) (by simp [sM])
    have q16 := f16.trans0 fU
    have lU : pLoad P 87 (pt (sz w16) 0) U = some (pinV qn, U) := pld87 um
    have lU2 : pLoad P 87 (pt (sz w14) 0) U = some (pinV qn, U) := pld87 (by rw [q16.mm vs15 (by simp), vm15])
    have heq : ∀ w, pBin P .eql 87 false (pinV qn) (pinV qn) w = some (.bool true, w) := fun w => by rw [eqPin]; simp
    try simp (maxDischargeDepth := 8) [↓sC, sB, sM, stU, lU, lU2, heq, -st87, -ld87]
    exact g15.trans0 q16
end Go.Proofs.Yticncfkpfpkfoaa
