/- Pins: the document's Sector and Newest. Printed by pine.py. -/
import Derived.Test.YticncfkpfpkfoaaSim
import Derived.Test.YticncfkpfpkfoaaPinAD
set_option linter.unusedVariables false
set_option linter.unusedSimpArgs false
namespace Go.Proofs.Yticncfkpfpkfoaa
open Go

def refsP (p : PinP) : List PartR := (pinParts p).map plain
theorem encRs_pin (p : PinP) : encRs (refsP p) = pinB p := by
  unfold encRs refsP pinB encAll
  rw [List.map_map]
  congr 1
def uRef (n : Nat) : PartR := ⟨117, n, 0, 0, [], false⟩
theorem plain_uPart (n : Nat) : plain (uPart n) = uRef n := rfl
def SeI (w : World) (p : PinP) (m : Nat) (e : Env) (w' : World) : Prop :=
  ∃ (j : Nat) (ov : Value), m = 6 - j ∧ j ≤ 6 ∧ Fr [] w w' ∧ mm w' (sz w) = pinL p ∧ sz w < sz w' ∧ mm w' (sz w + 1) = bs (zb 64) ∧ fz w' (sz w + 1) = false ∧ w'.ownsRow (sz w + 2) 134 6 ov j (flat refC ((refsP p).take j)) ∧
    e 1 = pt (sz w) 0 ∧ e 2 = pt (sz w + 1) 0 ∧ e 3 = ov ∧ e 4 = i64 j
theorem refSector_spec {w : World} {p : PinP} (h : okPin p) : Ret P 64 #[pinV p] w fun x w' => x = sec (sealOf (pinB p)) ∧ Fr [] w w' := by
  refine F64ok ?_
  unfold F64
  have hlen := pinB_len h
  have hsl := sealOf_length hlen
  have hb0 : ∀ w, pBuildSlice P 129 0 [] w = some (sl (sz w) 0 0 0, nw w [] 134) := fun w => by rw [bsl129 (by omega) (by simp)]; rfl
  obtain ⟨X, hX⟩ : ∃ X, X = nw (nw (nw w (pinL p) 87) (bs (zb 64)) 25) [] 134 := ⟨_, rfl⟩
  obtain ⟨X', hX'⟩ : ∃ X', X' = nw (nw (nw w (pinL p) 93) (bs (zb 64)) 25) [] 134 := ⟨_, rfl⟩
  have fX : Fr [] w X' := by rw [hX']; exact (((Fr.refl [] w).nw _ _).nw _ _).nw _ _
  have hX0 : mm X' (sz w) = pinL p := by rw [hX']; simp [sM]; exact fun h => absurd h (by omega)
  have hX1 : mm X' (sz w + 1) = bs (zb 64) := by rw [hX']; simp [sM]
  have hX1z : fz X' (sz w + 1) = false := by rw [hX']; simp [sM]
  have hXs : sz X' = sz w + 3 := by rw [hX']; simp [sM]
  have hXo : X'.ownsRow (sz w + 2) 134 6 (sl (sz w + 2) 0 0 0) 0 [] := by
    rw [hX']
    have := own_made (w := nw (nw w (pinL p) 93) (bs (zb 64)) 25) (base := sz w + 2) (e := 134) (size := 6) (by simp [sM])
    have hs : sz (nw (nw w (pinL p) 93) (bs (zb 64)) 25) = sz w + 2 := by simp [sM]
    rw [hs] at this
    exact this
  unfold pinL at hX'
  try simp (maxDischargeDepth := 8) [↓sC, sB, sM, hb0, ← hX', -bsl129]
  refine loopE_of (SeI w p) 6 ⟨0, sl (sz w + 2) 0 0 0, by omega, by omega, fX, hX0, by omega, hX1, hX1z, hXo, by simp [put_get, argE_get], by simp [put_get], by simp [put_get], by simp [put_get]⟩ ?_
  rintro m e w1 hI
  obtain ⟨j, ov, hm, hj, f1, m0, hs1, m1, z1, hown, e1, e2, e3, e4⟩ := hI
  subst hm
  unfold F64B0
  have hb1 := lt_of_fz z1
  by_cases hjl : j < 6
  · have t1 : (j < 6) = True := eq_true hjl
    have t2 : ((j : Int) < 6) = True := eq_true (by omega)
    obtain ⟨n, hn⟩ : ∃ n, (pinNs p)[j]? = some n := ⟨_, List.getElem?_eq_getElem (by show j < 6; exact hjl)⟩
    obtain ⟨n0, n1⟩ := pin_bound h n (List.mem_of_getElem? hn)
    obtain ⟨k, rfl⟩ : ∃ k : Nat, n = k := ⟨n.toNat, by omega⟩
    have hpart : (refsP p)[j]? = some (uRef k) := by unfold refsP pinParts; rw [List.getElem?_map, List.getElem?_map, hn]; rfl
    have hg : gt (mm w1 (sz w)) j = i64 k := by
      rw [m0, pinL_eq]
      unfold gt
      rw [List.getD_eq_getElem?_getD, List.getElem?_map, hn]
      rfl
    have hld : pLoad P 3 (pt (sz w) j) w1 = some (i64 k, w1) := by rw [ld3 (by rw [m0, pinL_len]; exact hjl), hg]
    have hcv : ∀ w', pConv P 3 132 (i64 (k : Int)) w' = some (u64 k, w') := fun w' => by
      rw [pConv_int (k := .i64) (k' := .u64) tyOk3 intK132]
      have : IntKind.u64.wrap (k : Int) = (k : Int) := wrapu (by rw [H63x2]; omega)
      rw [this]
    have hbu : ∀ w', pBuild P 134 [(0, u8 117), (1, u64 k)] w' = some (.agg (refC (uRef k)).toArray, w') := fun w' => by rw [bf134 (by simp)]; rfl
    have hbs : ∀ w', pBuildSlice P 129 1 [(0, .agg (refC (uRef k)).toArray)] w' = some (sl (sz w') 0 1 1, nw w' (refC (uRef k)) 134) := fun w' => by
      rw [bsl129 (by omega) (by simp [refC])]; simp [refC, splice]
    have hwj : IntKind.i64.wrap ((j : Int) + 1) = ((j + 1 : Nat) : Int) := wrap64 (by omega) (by omega)
    have f7 : Fr [] w1 (nw w1 (refC (uRef k)) 134) := (Fr.refl [] w1).nw _ _
    have hrd : RdV (nw w1 (refC (uRef k)) 134) (sl (sz w1) 0 1 1) 1 (refC (uRef k)) := rd_new w1 (refC (uRef k)) 134 (n := 1) (by unfold maxLen; omega)
    obtain ⟨v', w3, hrun, hown', hg', hv'⟩ := append_own2 (P := P) (t := 129) (ty := 129) (sz w + 2) sliceE129 hasZero134 cellsOf134 (by rw [zeroL134]; rfl) (by omega) (own_fr hown f7 (by simp)) (by rw [sz_nw]; omega) hrd rfl refC_one
      (by unfold maxLen; omega) (by rw [bytesOf134]; omega)
    have f3 := Fr.of_grown hg'
    have hno : ∀ c, ov.ownBlock = some c → sz w + 2 ≤ c := fun c hc => (own_lt hown c hc).1
    have hnm : ∀ c, c < sz w + 2 → c ∉ ov.ownBlock.toList := fun c hc hk => by have := hno c (by simpa using hk); omega
    try simp (maxDischargeDepth := 8) [↓sC, sB, sM, e1, e3, e4, t1, t2, hld, hcv, hbu, hbs, hrun, hwj, -ld3, -bf134, -bsl129, -Int.natCast_add]
    refine ⟨6 - (j + 1), by omega, j + 1, v', rfl, by omega, (f1.trans0 f7).trans f3 (fun c hc => .inr (by have := hno c (by simpa using hc); omega)), ?_, ?_, ?_, ?_, ?_, by simp [put_get, e1], by simp [put_get, e2], by simp [put_get], by simp [put_get]⟩
    · rw [f3.mm (f7.lt hs1) (hnm _ (by omega)), f7.mm hs1 (by simp), m0]
    · exact f3.lt (f7.lt hs1)
    · rw [f3.mm (f7.lt hb1) (hnm _ (by omega)), f7.mm hb1 (by simp), m1]
    · rw [f3.fz (f7.lt hb1) (hnm _ (by omega)), f7.fz hb1 (by simp), z1]
    · rw [List.take_add_one, hpart, flat_append]
      simpa [flat] using hown'
  · have hje : j = 6 := by omega
    subst hje
    try simp (maxDischargeDepth := 8) [↓sC, sB, sM, e2, e3, e4]
    have htk : (refsP p).take 6 = refsP p := rfl
    rw [htk] at hown
    have hok : ∀ q ∈ refsP p, okR q := fun q hq => by
      unfold refsP pinParts at hq
      rw [List.map_map] at hq
      obtain ⟨n, hn, rfl⟩ := List.mem_map.1 hq
      obtain ⟨n0, n1⟩ := pin_bound h n hn
      refine ⟨?_, ?_, ?_, ?_⟩
      · show n.toNat < 2 * H63
        rw [H63x2]; omega
      · show -9223372036854775808 ≤ (0 : Int) ∧ (0 : Int) < 9223372036854775808
        omega
      · show 0 < 2 * H63
        rw [H63x2]; omega
      · show 0 ≤ 100000000
        omega
    have hI2 : IsRefs w1 ov (refsP p) := ⟨own_rd hown, hok⟩
    refine (fwrite_spec hI2 (by rw [encRs_pin]; omega)).call ?_
    rintro v2 w2 ⟨hown2, f2⟩
    rw [encRs_pin] at hown2
    try simp (maxDischargeDepth := 8) [↓sC, sB, sM]
    refine (refSeal_spec (own_rd hown2) hlen).call ?_
    rintro _ w3 ⟨rfl, f3⟩
    have q3 := f2.trans0 f3
    have z3 : fz w3 (sz w + 1) = false := by rw [q3.fz hb1 (by simp), z1]
    have m3 : mm w3 (sz w + 1) = bs (zb 64) := by rw [q3.mm hb1 (by simp), m1]
    have hst : pStore P 25 (pt (sz w + 1) 0) (sec (sealOf (pinB p))) w3 = some (wr w3 (sz w + 1) (bs (sealOf (pinB p)))) := by
      try simp (maxDischargeDepth := 8) [↓sC, sB, sM, m3, z3, hsl]
    have hl : pLoad P 25 (pt (sz w + 1) 0) (wr w3 (sz w + 1) (bs (sealOf (pinB p)))) = some (sec (sealOf (pinB p)), wr w3 (sz w + 1) (bs (sealOf (pinB p)))) := by
      rw [ld25 (by rw [mm_wr_same z3, bs_length]; omega), mm_wr_same z3, List.drop_zero, List.take_of_length_le (by rw [bs_length]; omega)]
    try simp (maxDischargeDepth := 8) [↓sC, sB, sM, e2, hst, hl, -st25, -ld25]
    exact (f1.trans0 q3).wr (.inr (by omega)) _

theorem pg0 (p : PinP) : gt (pinL p) 0 = i64 p.s := rfl
theorem tmod_pin {p : PinP} (h : okPin p) : p.s.tmod 2 = p.s % 2 := Int.tmod_eq_emod_of_nonneg (by have := h.1; omega)
theorem remP {p : PinP} (h : okPin p) {k : Int} (hk : p.s % 2 = k) (w : World) : pBin P .rem 3 true (i64 p.s) (Value.int .i64 2) w = some (i64 k, w) := by
  rw [pBin_rem (by omega), tmod_pin h, hk]
theorem newest_spec {w : World} {a b : List UInt8} (ha : a.length = 64) (hb : b.length = 64) : Ret P 65 #[sec a, sec b] w fun x w' => PinR (getM a b) x ∧ Fr [] w w' := by
  refine F65ok ?_
  unfold F65
  obtain ⟨W, hW⟩ : ∃ W, W = nw (nw (nw w (bs a) 25) (bs b) 25) (pinL zPin) 93 := ⟨_, rfl⟩
  have fW : Fr [] w W := by rw [hW]; exact (((Fr.refl [] w).nw _ _).nw _ _).nw _ _
  have hWs : sz W = sz w + 3 := by rw [hW]; simp [sM]
  have hW0 : mm W (sz w) = bs a := by rw [hW]; simp [sM]; exact fun h => absurd h (by omega)
  have hW1 : mm W (sz w + 1) = bs b := by rw [hW]; simp [sM]
  have hW2 : mm W (sz w + 2) = pinL zPin := by rw [hW]; simp [sM]
  have hW2z : fz W (sz w + 2) = false := by rw [hW]; simp [sM]
  have hla : pLoad P 25 (pt (sz w) 0) W = some (sec a, W) := by
    rw [ld25 (by rw [hW0, bs_length]; omega), hW0, List.drop_zero, List.take_of_length_le (by rw [bs_length]; omega)]
  unfold pinL zPin at hW
  try simp (maxDischargeDepth := 8) [↓sC, sB, sM, ← hW, hla, -ld25, -st93]
  refine (refOf_spec ha).call ?_
  rintro _ w1 ⟨⟨q1, b1, rfl, hq1⟩, f1⟩
  obtain ⟨X, hX⟩ : ∃ X, X = wr (nw w1 (pinL zPin) 93) (sz w1) (pinL q1) := ⟨_, rfl⟩
  have fX : Fr [] w1 X := by rw [hX]; exact ((Fr.refl [] w1).nw _ _).wr (.inr (Nat.le_refl _)) _
  have hXm : mm X (sz w1) = pinL q1 := by rw [hX]; simp [sM]
  have hXs : sz X = sz w1 + 1 := by rw [hX]; simp [sM]
  have hstX : pStore P 93 (pt (sz w1) 0) (pinV q1) (nw w1 [Value.int .i64 0, Value.int .i64 0, Value.int .i64 0, Value.int .i64 0, Value.int .i64 0, Value.int .i64 0] 93) = some X := by
    rw [hX]; exact pst93 (by simp [sM]) (by simp [sM])
  have s1 := f1.size
  have x1 : mm X (sz w + 1) = bs b := by rw [fX.mm (by omega) (by simp), f1.mm (by omega) (by simp), hW1]
  have x2 : mm X (sz w + 2) = pinL zPin := by rw [fX.mm (by omega) (by simp), f1.mm (by omega) (by simp), hW2]
  have x2z : fz X (sz w + 2) = false := by rw [fX.fz (by omega) (by simp), f1.fz (by omega) (by simp), hW2z]
  have hlb : pLoad P 25 (pt (sz w + 1) 0) X = some (sec b, X) := by
    rw [ld25 (by rw [x1, bs_length]; omega), x1, List.drop_zero, List.take_of_length_le (by rw [bs_length]; omega)]
  try simp (maxDischargeDepth := 8) [↓sC, sB, sM, hstX, hlb, -ld25, -st93]
  refine (refOf_spec hb).call ?_
  rintro _ w2 ⟨⟨q2, b2, rfl, hq2⟩, f2⟩
  obtain ⟨Y, hY⟩ : ∃ Y, Y = wr (nw w2 (pinL zPin) 93) (sz w2) (pinL q2) := ⟨_, rfl⟩
  have fY : Fr [] w2 Y := by rw [hY]; exact ((Fr.refl [] w2).nw _ _).wr (.inr (Nat.le_refl _)) _
  have hYm : mm Y (sz w2) = pinL q2 := by rw [hY]; simp [sM]
  have hYs : sz Y = sz w2 + 1 := by rw [hY]; simp [sM]
  have hstY : pStore P 93 (pt (sz w2) 0) (pinV q2) (nw w2 [Value.int .i64 0, Value.int .i64 0, Value.int .i64 0, Value.int .i64 0, Value.int .i64 0, Value.int .i64 0] 93) = some Y := by
    rw [hY]; exact pst93 (by simp [sM]) (by simp [sM])
  have s2 := f2.size
  have y1 : mm Y (sz w1) = pinL q1 := by rw [fY.mm (by omega) (by simp), f2.mm (by omega) (by simp), hXm]
  have y2 : mm Y (sz w + 2) = pinL zPin := by rw [fY.mm (by omega) (by simp), f2.mm (by omega) (by simp), x2]
  have y2z : fz Y (sz w + 2) = false := by rw [fY.fz (by omega) (by simp), f2.fz (by omega) (by simp), x2z]
  have gY : Fr [] w Y := (((fW.trans0 f1).trans0 fX).trans0 f2).trans0 fY
  have hl1 : pLoad P 93 (pt (sz w1) 0) Y = some (pinV q1, Y) := pld93 y1
  have hl2 : pLoad P 93 (pt (sz w2) 0) Y = some (pinV q2, Y) := pld93 hYm
  have hn1 : pLoad P 3 (pt (sz w1) 0) Y = some (i64 q1.s, Y) := by rw [ld3 (by rw [y1, pinL_len]; omega), y1, pg0]
  have hn2 : pLoad P 3 (pt (sz w2) 0) Y = some (i64 q2.s, Y) := by rw [ld3 (by rw [hYm, pinL_len]; omega), hYm, pg0]
  have hsr : ∀ q : PinP, pStore P 93 (pt (sz w + 2) 0) (pinV q) Y = some (wr Y (sz w + 2) (pinL q)) := fun q => pst93 (by rw [y2]; rfl) y2z
  have hsz : pStore P 93 (pt (sz w + 2) 0) (Value.agg #[Value.int .i64 0, Value.int .i64 0, Value.int .i64 0, Value.int .i64 0, Value.int .i64 0, Value.int .i64 0]) Y = some (wr Y (sz w + 2) (pinL zPin)) := hsr zPin
  have hlr : ∀ q : PinP, pLoad P 93 (pt (sz w + 2) 0) (wr Y (sz w + 2) (pinL q)) = some (pinV q, wr Y (sz w + 2) (pinL q)) := fun q => pld93 (by rw [mm_wr_same y2z])
  have gF : ∀ l, Fr [] w (wr Y (sz w + 2) l) := fun l => gY.wr (.inr (by omega)) _
  cases b1 with
  | false =>
    cases b2 with
    | false =>
      try simp (maxDischargeDepth := 8) [↓sC, sB, sM, hstY, hl1, hl2, hn1, hn2, hsr, hsz, hlr, -ld3, -st93, -ld93]
      refine ⟨⟨zPin, false, rfl, ?_⟩, gF _⟩
      unfold getM
      rw [hq1, hq2]
      simp [sideM, newerM]
    | true =>
      have k2 : okPin q2 := ofM_ok (by rw [hq2]; rfl)
      have r2 := tmod_pin k2
      by_cases p2 : q2.s % 2 = 1
      · have t2 := remP k2 p2
        try simp (maxDischargeDepth := 8) [↓sC, sB, sM, hstY, hl1, hl2, hn1, hn2, hsr, hsz, hlr, p2, t2, -ld3, -st93, -ld93]
        refine ⟨⟨q2, true, rfl, ?_⟩, gF _⟩
        unfold getM
        rw [hq1, hq2]
        simp [sideM, newerM, p2]
      · have p2' : q2.s % 2 = 0 := by omega
        have t2 := remP k2 p2'
        try simp (maxDischargeDepth := 8) [↓sC, sB, sM, hstY, hl1, hl2, hn1, hn2, hsr, hsz, hlr, p2', t2, -ld3, -st93, -ld93]
        refine ⟨⟨zPin, false, rfl, ?_⟩, gF _⟩
        unfold getM
        rw [hq1, hq2]
        simp [sideM, newerM, p2']
  | true =>
    have k1 : okPin q1 := ofM_ok (by rw [hq1]; rfl)
    by_cases p1 : q1.s % 2 = 0
    · have t1 := remP k1 p1
      cases b2 with
      | false =>
        try simp (maxDischargeDepth := 8) [↓sC, sB, sM, hstY, hl1, hl2, hn1, hn2, hsr, hsz, hlr, p1, t1, -ld3, -st93, -ld93]
        refine ⟨⟨q1, true, rfl, ?_⟩, gF _⟩
        unfold getM
        rw [hq1, hq2]
        simp [sideM, newerM, p1]
      | true =>
        have k2 : okPin q2 := ofM_ok (by rw [hq2]; rfl)
        have r2 := tmod_pin k2
        by_cases p2 : q2.s % 2 = 1
        · have t2 := remP k2 p2
          by_cases hc : q1.s < q2.s
          · have c1 : (q2.s < q1.s) = False := eq_false (by omega)
            have c2 : (q1.s < q2.s) = True := eq_true hc
            try simp (maxDischargeDepth := 8) [↓sC, sB, sM, hstY, hl1, hl2, hn1, hn2, hsr, hsz, hlr, p1, t1, p2, t2, c1, c2, -ld3, -st93, -ld93]
            refine ⟨⟨q2, true, rfl, ?_⟩, gF _⟩
            unfold getM
            rw [hq1, hq2]
            simp [sideM, newerM, p1, p2, c1, c2]
          · have c1 : (q2.s < q1.s) = True := eq_true (by omega)
            have c2 : (q1.s < q2.s) = False := eq_false hc
            try simp (maxDischargeDepth := 8) [↓sC, sB, sM, hstY, hl1, hl2, hn1, hn2, hsr, hsz, hlr, p1, t1, p2, t2, c1, c2, -ld3, -st93, -ld93]
            refine ⟨⟨q1, true, rfl, ?_⟩, gF _⟩
            unfold getM
            rw [hq1, hq2]
            simp [sideM, newerM, p1, p2, c1, c2]
        · have p2' : q2.s % 2 = 0 := by omega
          have t2 := remP k2 p2'
          try simp (maxDischargeDepth := 8) [↓sC, sB, sM, hstY, hl1, hl2, hn1, hn2, hsr, hsz, hlr, p1, t1, p2', t2, -ld3, -st93, -ld93]
          refine ⟨⟨q1, true, rfl, ?_⟩, gF _⟩
          unfold getM
          rw [hq1, hq2]
          simp [sideM, newerM, p1, p2']
    · have p1' : q1.s % 2 = 1 := by omega
      have t1 := remP k1 p1'
      cases b2 with
      | false =>
        try simp (maxDischargeDepth := 8) [↓sC, sB, sM, hstY, hl1, hl2, hn1, hn2, hsr, hsz, hlr, p1', t1, -ld3, -st93, -ld93]
        refine ⟨⟨zPin, false, rfl, ?_⟩, gF _⟩
        unfold getM
        rw [hq1, hq2]
        simp [sideM, newerM, p1']
      | true =>
        have k2 : okPin q2 := ofM_ok (by rw [hq2]; rfl)
        have r2 := tmod_pin k2
        by_cases p2 : q2.s % 2 = 1
        · have t2 := remP k2 p2
          try simp (maxDischargeDepth := 8) [↓sC, sB, sM, hstY, hl1, hl2, hn1, hn2, hsr, hsz, hlr, p1', t1, p2, t2, -ld3, -st93, -ld93]
          refine ⟨⟨q2, true, rfl, ?_⟩, gF _⟩
          unfold getM
          rw [hq1, hq2]
          simp [sideM, newerM, p1', p2]
        · have p2' : q2.s % 2 = 0 := by omega
          have t2 := remP k2 p2'
          try simp (maxDischargeDepth := 8) [↓sC, sB, sM, hstY, hl1, hl2, hn1, hn2, hsr, hsz, hlr, p1', t1, p2', t2, -ld3, -st93, -ld93]
          refine ⟨⟨zPin, false, rfl, ?_⟩, gF _⟩
          unfold getM
          rw [hq1, hq2]
          simp [sideM, newerM, p1', p2']
end Go.Proofs.Yticncfkpfpkfoaa

set_option linter.unusedVariables false
set_option linter.unusedSimpArgs false
namespace Go.Proofs.Yticncfkpfpkfoaa
open Go

theorem pinW_pend (D : DD) (x : Int) (s : List UInt8) : (writeD D x s).pend.length ≤ D.pend.length + 1 := by unfold writeD; split <;> simp
theorem pinW_writes (D : DD) (x : Int) (s : List UInt8) : (writeD D x s).writes ≤ D.writes + 1 := by
  unfold writeD; split
  · exact Int.le_refl _
  · omega
theorem IsD.ltP {w : World} {b : Nat} {D : DD} {F : List Nat} (h : IsD w b D F) : ∀ k ∈ F, k < sz w := by
  obtain ⟨hw, fb, fc, pv, tl, h1, h2, h3, h4, h5, h6, h7, h8, h9, h10, h11, h12, h13, h14⟩ := h
  exact h14
theorem syncD_bound (D : DD) : (syncD D).pend.length ≤ D.pend.length ∧ (syncD D).writes = D.writes := by
  unfold syncD
  split <;> simp
theorem wipe1_bound (D : DD) (x : Int) : (wipeGo 1 D x false).1.pend.length ≤ D.pend.length + 1 ∧ (wipeGo 1 D x false).1.writes ≤ D.writes + 1 := by
  have h1 := pinW_pend D x (zb 64)
  have h2 := pinW_writes D x (zb 64)
  unfold wipeGo
  split
  · split
    · simp [wipeGo]; omega
    · split
      · simp only [wipeGo, if_true]
        obtain ⟨a, b⟩ := syncD_bound (writeD D x (zb 64))
        omega
      · exact ⟨h1, h2⟩
  · simp; omega
theorem put_spec {w : World} {b : Nat} {D : DD} {F : List Nat} {p : PinP} (h : IsD w b D F) (hm : D.pend.length + 10 < 1000000) (hwr : D.writes + 10 < 4611686018427387904) :
    Ret P 59 #[pt b 0, pinV p] w fun x w' => x = i64 (putM p D).2 ∧ ∃ F', IsD w' b (putM p D).1 F' ∧ Grow F w F' w' := by
  refine F59ok ?_
  unfold F59
  obtain ⟨W, hW⟩ : ∃ W, W = nw w (pinL p) 87 := ⟨_, rfl⟩
  have fW : Fr [] w W := by rw [hW]; exact (Fr.refl [] w).nw _ _
  have hWm : mm W (sz w) = pinL p := by rw [hW]; simp [sM]
  have hWs : sz W = sz w + 1 := by rw [hW]; simp [sM]
  unfold pinL at hW
  try simp (maxDischargeDepth := 8) [↓sC, sB, sM, ← hW]
  refine (reached_spec (h.fr0 fW)).call ?_
  rintro _ w1 ⟨rfl, f1⟩
  have q1 := fW.trans0 f1
  have m1 : mm w1 (sz w) = pinL p := by rw [f1.mm (by omega) (by simp), hWm]
  have s1 : sz w < sz w1 := f1.lt (by omega)
  have hlp : pLoad P 87 (pt (sz w) 0) w1 = some (pinV p, w1) := pld87 m1
  by_cases hr : reachM D = 0
  · rw [hr]
    try simp (maxDischargeDepth := 8) [↓sC, sB, sM, hlp, -ld87]
    have hck := check_spec (w := w1) (p := p)
    refine hck.call ?_
    rintro _ w2 ⟨rfl, f2⟩
    have q2 := q1.trans0 f2
    have m2 : mm w2 (sz w) = pinL p := by rw [f2.mm s1 (by simp), m1]
    have s2 := f2.lt s1
    by_cases hk : okPin p
    · rw [if_pos hk]
      obtain ⟨k, hkk, hk2⟩ := side_nat hk
      have hn : pLoad P 3 (pt (sz w) 0) w2 = some (i64 p.s, w2) := by rw [ld3 (by rw [m2, pinL_len]; omega), m2, pg0]
      have hrm := remP hk hkk
      try simp (maxDischargeDepth := 8) [↓sC, sB, sM, hn, hrm, -ld3]
      have hwp := wipe_spec (x := (k : Int)) (ni := 1) (n := 1) (h.fr0 q2) (by omega) (by omega) (by omega) (by omega) (by omega) (by omega)
      obtain ⟨hb1, hb2⟩ := wipe1_bound D k
      have hput0 : putM p D = if (wipeGo 1 D (k : Int) false).2 ≠ 0 then wipeGo 1 D (k : Int) false else if writeE (wipeGo 1 D (k : Int) false).1 k ≠ 0 then (writeD (wipeGo 1 D (k : Int) false).1 k (sealOf (pinB p)), writeE (wipeGo 1 D (k : Int) false).1 k)
          else (syncD (writeD (wipeGo 1 D (k : Int) false).1 k (sealOf (pinB p))), if (writeD (wipeGo 1 D (k : Int) false).1 k (sealOf (pinB p))).down then 14 else 0) := by
        unfold putM
        rw [if_neg (by simp [hr]), if_neg (by simp [hk]), hkk]
      obtain ⟨D1, hD1⟩ : ∃ D1, D1 = (wipeGo 1 D (k : Int) false).1 := ⟨_, rfl⟩
      obtain ⟨c1, hc1⟩ : ∃ c1, c1 = (wipeGo 1 D (k : Int) false).2 := ⟨_, rfl⟩
      have hwg : wipeGo 1 D (k : Int) false = (D1, c1) := by rw [hD1, hc1]
      rw [hwg] at hput0 hb1 hb2 hwp
      simp only at hput0 hb1 hb2 hwp
      refine hwp.call ?_
      rintro _ w3 ⟨rfl, F3, hd3, hg3⟩
      have hFlt : ∀ k ∈ F, k < sz w := h.ltP
      have g3 : Grow F w F3 w3 := (Grow.calm (Grow.refl F w) q2).step hg3.fr hg3.new
      have n0 : sz w ∉ F := fun hk => by have := hFlt _ hk; omega
      have m3 : mm w3 (sz w) = pinL p := by rw [hg3.fr.mm s2 n0, m2]
      have s3 := hg3.fr.lt s2
      by_cases hc0 : c1 = 0
      · subst hc0
        rw [if_neg (by simp)] at hput0
        have hlp3 : pLoad P 87 (pt (sz w) 0) w3 = some (pinV p, w3) := pld87 m3
        try simp (maxDischargeDepth := 8) [↓sC, sB, sM, hlp3, -ld87]
        refine (written_spec hk).call ?_
        rintro v4 w4 ⟨hown4, f4⟩
        have hlen := pinB_len hk
        have hsl := sealOf_length hlen
        try simp (maxDischargeDepth := 8) [↓sC, sB, sM]
        refine (seal_spec (own_rd hown4)).call ?_
        rintro _ w5 ⟨rfl, f5⟩
        rw [if_pos hlen, if_pos hlen]
        obtain ⟨X, hX⟩ : ∃ X, X = wr (nw w5 (bs (zb 64)) 25) (sz w5) (bs (sealOf (pinB p))) := ⟨_, rfl⟩
        have fX : Fr [] w5 X := by rw [hX]; exact ((Fr.refl [] w5).nw _ _).wr (.inr (Nat.le_refl _)) _
        have hXm : mm X (sz w5) = bs (sealOf (pinB p)) := by rw [hX, mm_wr_same]; simp [sM]
        have hstX : pStore P 25 (pt (sz w5) 0) (sec (sealOf (pinB p))) (nw w5 (bs (zb 64)) 25) = some X := by
          rw [hX]; try simp (maxDischargeDepth := 8) [↓sC, sB, sM, hsl]
        have hlX : pLoad P 25 (pt (sz w5) 0) X = some (sec (sealOf (pinB p)), X) := by
          rw [ld25 (by rw [hXm, bs_length]; omega), hXm, List.drop_zero, List.take_of_length_le (by rw [bs_length]; omega)]
        have q36 : Fr [] w3 X := (f4.trans0 f5).trans0 fX
        try simp (maxDischargeDepth := 8) [↓sC, sB, sM, hrm, hstX, hlX, -st25, -ld25]
        have hws := write_spec (x := (k : Int)) (s := sealOf (pinB p)) (hd3.fr0 q36) hsl (by omega) (by omega)
        refine hws.call ?_
        rintro _ w7 ⟨rfl, F7, hd7, f7, hF7⟩
        have g7 : Grow F w F7 w7 := ((g3.calm q36)).step f7 (fun k hk => hF7 k hk)
        obtain ⟨c2, hc2⟩ : ∃ c2, c2 = writeE D1 (k : Int) := ⟨_, rfl⟩
        rw [← hc2] at hput0 ⊢
        by_cases hc20 : c2 = 0
        · have d1 : (c2 = 0) = True := eq_true hc20
          rw [if_neg (by simp [hc20])] at hput0
          try simp (maxDischargeDepth := 8) [↓sC, sB, sM, d1]
          refine (sync_spec hd7).call ?_
          rintro _ w8 ⟨rfl, hd8, f8⟩
          try simp (maxDischargeDepth := 8) [↓sC, sB, sM]
          rw [hput0]
          exact ⟨rfl, F7, hd8, g7.same f8⟩
        · have d1 : (c2 = 0) = False := eq_false hc20
          rw [if_pos hc20] at hput0
          try simp (maxDischargeDepth := 8) [↓sC, sB, sM, d1]
          rw [hput0]
          exact ⟨rfl, F7, hd7, g7⟩
      · have d1 : (c1 = 0) = False := eq_false hc0
        rw [if_pos hc0] at hput0
        try simp (maxDischargeDepth := 8) [↓sC, sB, sM, d1]
        rw [hput0]
        exact ⟨rfl, F3, hd3, g3⟩
    · rw [if_neg hk]
      have hG : putM p D = (D, 1) := by unfold putM; rw [if_neg (by simp [hr]), if_pos hk]
      try simp (maxDischargeDepth := 8) [↓sC, sB, sM]
      rw [hG]
      exact ⟨rfl, F, h.fr0 q2, (Grow.refl F w).calm q2⟩
  · have d1 : (reachM D = 0) = False := eq_false hr
    have hG : putM p D = (D, reachM D) := by unfold putM; rw [if_pos hr]
    try simp (maxDischargeDepth := 8) [↓sC, sB, sM, d1]
    rw [hG]
    exact ⟨rfl, F, h.fr0 q1, (Grow.refl F w).calm q1⟩
end Go.Proofs.Yticncfkpfpkfoaa

set_option linter.unusedVariables false
set_option linter.unusedSimpArgs false
namespace Go.Proofs.Yticncfkpfpkfoaa
open Go

/-- What is told when so many sectors were looked at. -/
noncomputable def outJ (D : DD) (j : Nat) : PinP := if j = 0 then zPin else if j = 1 then (sideM 0 (ofM (view D 0))).getD zPin else (getM (view D 0) (view D 1)).getD zPin
theorem sideM_ok {k : Int} {s : List UInt8} {p : PinP} (h : sideM k (ofM s) = some p) : okPin p := ofM_ok (sideM_some h).1
theorem outJ0 (D : DD) : outJ D 0 = zPin := by unfold outJ; rw [if_pos rfl]
theorem outJ1 (D : DD) : outJ D 1 = (sideM 0 (ofM (view D 0))).getD zPin := by unfold outJ; rw [if_neg (by omega), if_pos rfl]
theorem outJ2 (D : DD) : outJ D 2 = (getM (view D 0) (view D 1)).getD zPin := by unfold outJ; rw [if_neg (by omega), if_neg (by omega)]
theorem out_step {D : DD} {j : Nat} (hj : j < 2) {q : PinP} (h : sideM (j : Int) (ofM (view D j)) = some q) : outJ D (j + 1) = if (outJ D j).s < q.s then q else outJ D j := by
  have hq := sideM_ok h
  have h1 := hq.1
  have hz : zPin.s < q.s := by show (0 : Int) < q.s; omega
  match j, hj with
  | 0, _ =>
    have h' : sideM 0 (ofM (view D 0)) = some q := h
    rw [outJ1, outJ0, h', if_pos hz]
    rfl
  | 1, _ =>
    have h' : sideM 1 (ofM (view D 1)) = some q := h
    rw [outJ2, outJ1]
    unfold getM
    rw [h']
    cases hx : sideM 0 (ofM (view D 0)) with
    | none =>
      simp only [newerM, Option.getD_some, Option.getD_none]
      rw [if_pos hz]
    | some x =>
      simp only [newerM, Option.getD_some]
      split <;> rfl
theorem out_keep {D : DD} {j : Nat} (hj : j < 2) (h : sideM (j : Int) (ofM (view D j)) = none) : outJ D (j + 1) = outJ D j := by
  match j, hj with
  | 0, _ =>
    have h' : sideM 0 (ofM (view D 0)) = none := h
    rw [outJ1, outJ0, h']
    rfl
  | 1, _ =>
    have h' : sideM 1 (ofM (view D 1)) = none := h
    rw [outJ2, outJ1]
    unfold getM
    rw [h']
    cases hx : sideM 0 (ofM (view D 0)) <;> rfl
def GetR (o : Option PinP) (x : Value) : Prop := (∃ q, o = some q ∧ x = .tuple #[pinV q, i64 0]) ∨ (o = none ∧ x = .tuple #[pinV zPin, i64 6])
theorem getM_ok {a b : List UInt8} {p : PinP} (h : getM a b = some p) : okPin p := by
  unfold getM at h
  cases hx : sideM 0 (ofM a) with
  | none =>
    rw [hx] at h
    have : sideM 1 (ofM b) = some p := h
    exact sideM_ok this
  | some x =>
    rw [hx] at h
    cases hy : sideM 1 (ofM b) with
    | none => rw [hy] at h; simp only [newerM, Option.some.injEq] at h; subst h; exact sideM_ok hx
    | some y =>
      rw [hy] at h
      simp only [newerM] at h
      split at h
      · simp only [Option.some.injEq] at h; subst h; exact sideM_ok hy
      · simp only [Option.some.injEq] at h; subst h; exact sideM_ok hx
def GtI (w : World) (b : Nat) (D : DD) (ob : Nat) (m : Nat) (e : Env) (w' : World) : Prop :=
  ∃ j : Nat, m = 2 - j ∧ j ≤ 2 ∧ Fr [] w w' ∧ mm w' (sz w) = pinL zPin ∧ fz w' (sz w) = false ∧ mm w' ob = pinL (outJ D j) ∧ fz w' ob = false ∧ e 0 = pt b 0 ∧ e 2 = pt (sz w) 0 ∧ e 5 = pt ob 0 ∧ e 19 = i64 j
theorem get_spec {w : World} {b : Nat} {D : DD} {F : List Nat} (h : IsD w b D F) (hr : reachM D = 0) : Ret P 60 #[pt b 0] w fun x w' => GetR (getM (view D 0) (view D 1)) x ∧ Fr [] w w' := by
  refine F60ok ?_
  unfold F60
  obtain ⟨hdn, hlen⟩ : D.down = false ∧ 2 ≤ D.firm.length := by
    unfold reachM at hr
    split at hr
    · simp at hr
    · rename_i hd
      split at hr
      · simp at hr
      · exact ⟨by simpa using hd, by omega⟩
  obtain ⟨W, hW⟩ : ∃ W, W = nw w (pinL zPin) 87 := ⟨_, rfl⟩
  have fW : Fr [] w W := by rw [hW]; exact (Fr.refl [] w).nw _ _
  have hWm : mm W (sz w) = pinL zPin := by rw [hW]; simp [sM]
  have hWz : fz W (sz w) = false := by rw [hW]; simp [sM]
  have hWs : sz W = sz w + 1 := by rw [hW]; simp [sM]
  unfold pinL zPin at hW
  try simp (maxDischargeDepth := 8) [↓sC, sB, sM, ← hW]
  refine (reached_spec (h.fr0 fW)).call ?_
  rintro _ w1 ⟨rfl, f1⟩
  rw [hr]
  have m1 : mm w1 (sz w) = pinL zPin := by rw [f1.mm (by omega) (by simp), hWm]
  have z1 : fz w1 (sz w) = false := by rw [f1.fz (by omega) (by simp), hWz]
  have s1 := f1.lt (show sz w < sz W by omega)
  obtain ⟨X, hX⟩ : ∃ X, X = nw w1 (pinL zPin) 87 := ⟨_, rfl⟩
  have fX : Fr [] w1 X := by rw [hX]; exact (Fr.refl [] w1).nw _ _
  have mX : mm X (sz w) = pinL zPin := by rw [fX.mm s1 (by simp), m1]
  have zX : fz X (sz w) = false := by rw [fX.fz s1 (by simp), z1]
  have oX : mm X (sz w1) = pinL zPin := by rw [hX]; simp [sM]
  have oXz : fz X (sz w1) = false := by rw [hX]; simp [sM]
  have gX := (fW.trans0 f1).trans0 fX
  unfold pinL zPin at hX
  try simp (maxDischargeDepth := 8) [↓sC, sB, sM, ← hX]
  have o0 : outJ D 0 = zPin := by unfold outJ; rw [if_pos rfl]
  refine loopE_of (GtI w b D (sz w1)) 2 ⟨0, by omega, by omega, gX, mX, zX, by rw [o0, oX], oXz, by simp [put_get, argE_get], by simp [put_get], by simp [put_get], by simp [put_get]⟩ ?_
  rintro m e w3 hI
  obtain ⟨j, hm, hj, g3, m3, z3, o3, y3, e0, e2, e5, e19⟩ := hI
  subst hm
  unfold F60B0
  have s3 := lt_of_fz z3
  have t3 := lt_of_fz y3
  by_cases hjl : j < 2
  · have t1 : (j < 2) = True := eq_true hjl
    have t2 : ((j : Int) < 2) = True := eq_true (by omega)
    have hok : okE D (j : Int) = 0 := by
      unfold okE
      rw [if_neg (by simp [hdn]), if_neg (by omega)]
    have hwj : IntKind.i64.wrap ((j : Int) + 1) = ((j + 1 : Nat) : Int) := wrap64 (by omega) (by omega)
    try simp (maxDischargeDepth := 8) [↓sC, sB, sM, e0, e19, t1, t2]
    refine (read_spec (x := (j : Int)) (h.fr0 g3) (by omega) (by omega)).call ?_
    rintro _ w4 ⟨rfl, f4⟩
    rw [hok, if_pos rfl]
    obtain ⟨s, hs⟩ : ∃ s, s = view D j := ⟨_, rfl⟩
    have hrs : readD D (j : Int) = s := by rw [hs]; rfl
    have hs64 : s.length = 64 := by rw [← hrs]; exact readD_len h.1 (by omega) (by omega)
    rw [hrs]
    obtain ⟨Y, hY⟩ : ∃ Y, Y = wr (nw w4 (bs (zb 64)) 25) (sz w4) (bs s) := ⟨_, rfl⟩
    have fY : Fr [] w4 Y := by rw [hY]; exact ((Fr.refl [] w4).nw _ _).wr (.inr (Nat.le_refl _)) _
    have hYm : mm Y (sz w4) = bs s := by rw [hY, mm_wr_same]; simp [sM]
    have hstY : pStore P 25 (pt (sz w4) 0) (sec s) (nw w4 (bs (zb 64)) 25) = some Y := by
      rw [hY]; try simp (maxDischargeDepth := 8) [↓sC, sB, sM, hs64]
    have hlY : pLoad P 25 (pt (sz w4) 0) Y = some (sec s, Y) := by
      rw [ld25 (by rw [hYm, bs_length]; omega), hYm, List.drop_zero, List.take_of_length_le (by rw [bs_length]; omega)]
    try simp (maxDischargeDepth := 8) [↓sC, sB, sM, hstY, hlY, -st25, -ld25]
    refine (open_spec hs64).call ?_
    rintro _ w5 ⟨f5, x, rfl, hx1, hx0⟩
    have f35 : Fr [] w3 w5 := (f4.trans0 fY).trans0 f5
    have fin : ∀ (e' : Env) (w' : World), Fr [] w w' → mm w' (sz w) = pinL zPin → fz w' (sz w) = false → mm w' (sz w1) = pinL (outJ D (j + 1)) → fz w' (sz w1) = false → e' 0 = pt b 0 → e' 2 = pt (sz w) 0 → e' 5 = pt (sz w1) 0 → e' 19 = i64 ((j + 1 : Nat) : Int) → ∃ m, m < 2 - j ∧ GtI w b D (sz w1) m e' w' := fun e' w' k1 k2 k3 k4 k5 k6 k7 k8 k9 => ⟨2 - (j + 1), by omega, j + 1, rfl, by omega, k1, k2, k3, k4, k5, k6, k7, k8, k9⟩
    by_cases hwh : isWhole s
    · have c0 : (isWhole s) = True := eq_true hwh
      have hof : ofM s = readP (pay s) := by unfold ofM; rw [if_pos hwh]
      try simp (maxDischargeDepth := 8) [↓sC, sB, sM, letK_def, c0]
      refine (pinRead_spec (hx1 hwh)).call ?_
      rintro _ w6 ⟨⟨q, bb, rfl, hq⟩, f6⟩
      rw [← hof] at hq
      obtain ⟨Z, hZ⟩ : ∃ Z, Z = wr (nw w6 (pinL zPin) 87) (sz w6) (pinL q) := ⟨_, rfl⟩
      have fZ : Fr [] w6 Z := by rw [hZ]; exact ((Fr.refl [] w6).nw _ _).wr (.inr (Nat.le_refl _)) _
      have hZm : mm Z (sz w6) = pinL q := by rw [hZ]; simp [sM]
      have hZs : sz Z = sz w6 + 1 := by rw [hZ]; simp [sM]
      have hstZ : pStore P 87 (pt (sz w6) 0) (pinV q) (nw w6 [Value.int .i64 0, Value.int .i64 0, Value.int .i64 0, Value.int .i64 0, Value.int .i64 0, Value.int .i64 0] 87) = some Z := by
        rw [hZ]; exact pst87 (by simp [sM]) (by simp [sM])
      have f3Z : Fr [] w3 Z := (f35.trans0 f6).trans0 fZ
      have mZ : mm Z (sz w) = pinL zPin := by rw [f3Z.mm s3 (by simp), m3]
      have zZ : fz Z (sz w) = false := by rw [f3Z.fz s3 (by simp), z3]
      have oZ : mm Z (sz w1) = pinL (outJ D j) := by rw [f3Z.mm t3 (by simp), o3]
      have yZ : fz Z (sz w1) = false := by rw [f3Z.fz t3 (by simp), y3]
      have hn1 : pLoad P 3 (pt (sz w6) 0) Z = some (i64 q.s, Z) := by rw [ld3 (by rw [hZm, pinL_len]; omega), hZm, pg0]
      have hn2 : pLoad P 3 (pt (sz w1) 0) Z = some (i64 (outJ D j).s, Z) := by rw [ld3 (by rw [oZ, pinL_len]; omega), oZ, pg0]
      have hlq : pLoad P 87 (pt (sz w6) 0) Z = some (pinV q, Z) := pld87 hZm
      have hso : pStore P 87 (pt (sz w1) 0) (pinV q) Z = some (wr Z (sz w1) (pinL q)) := pst87 (by rw [oZ]; rfl) yZ
      cases bb with
      | false =>
        have hk := out_keep hjl (by rw [← hs, hq]; rfl)
        try simp (maxDischargeDepth := 8) [↓sC, sB, sM, hstZ, -st87, e19, hwj, -Int.natCast_add]
        exact fin _ _ (g3.trans0 f3Z) mZ zZ (by rw [hk, oZ]) yZ (by simp [put_get, e0]) (by simp [put_get, e2]) (by simp [put_get, e5]) (by simp [put_get])
      | true =>
        have hkq : okPin q := ofM_ok (by rw [hq]; rfl)
        by_cases hp : q.s % 2 = (j : Int)
        · have hsd : sideM (j : Int) (ofM (view D j)) = some q := by rw [← hs, hq]; simp [sideM, hp]
          have ho := out_step hjl hsd
          have hrm := remP hkq hp
          by_cases hlt : (outJ D j).s < q.s
          · have c3 : ((outJ D j).s < q.s) = True := eq_true hlt
            rw [if_pos hlt] at ho
            try simp (maxDischargeDepth := 8) [↓sC, sB, sM, hstZ, e5, hn1, hn2, hrm, c3, hlq, hso, -st87, -ld87, -ld3, e19, hwj, -Int.natCast_add]
            exact fin _ _ ((g3.trans0 f3Z).wr (.inr (by omega)) _) (by rw [mm_wr_ne (by omega), mZ]) (by rw [fz_wr, zZ]) (by rw [mm_wr_same yZ, ho]) (by rw [fz_wr, yZ]) (by simp [put_get, e0]) (by simp [put_get, e2]) (by simp [put_get, e5]) (by simp [put_get])
          · have c3 : ((outJ D j).s < q.s) = False := eq_false hlt
            rw [if_neg hlt] at ho
            try simp (maxDischargeDepth := 8) [↓sC, sB, sM, hstZ, e5, hn1, hn2, hrm, c3, -st87, -ld87, -ld3, e19, hwj, -Int.natCast_add]
            exact fin _ _ (g3.trans0 f3Z) mZ zZ (by rw [ho, oZ]) yZ (by simp [put_get, e0]) (by simp [put_get, e2]) (by simp [put_get, e5]) (by simp [put_get])
        · have hk := out_keep hjl (by rw [← hs, hq]; simp [sideM, hp])
          obtain ⟨jj, hjj⟩ : ∃ jj : Int, q.s % 2 = jj := ⟨_, rfl⟩
          have hrm := remP hkq hjj
          have c3 : (jj = (j : Int)) = False := eq_false (by omega)
          try simp (maxDischargeDepth := 8) [↓sC, sB, sM, hstZ, hn1, hrm, c3, -st87, -ld87, -ld3, e19, hwj, -Int.natCast_add]
          exact fin _ _ (g3.trans0 f3Z) mZ zZ (by rw [hk, oZ]) yZ (by simp [put_get, e0]) (by simp [put_get, e2]) (by simp [put_get, e5]) (by simp [put_get])
    · have c0 : (isWhole s) = False := eq_false hwh
      have hk := out_keep hjl (by rw [← hs, ofM_bad hwh]; rfl)
      try simp (maxDischargeDepth := 8) [↓sC, sB, sM, letK_def, c0, e19, hwj, -Int.natCast_add]
      exact fin _ _ (g3.trans0 f35) (by rw [f35.mm s3 (by simp), m3]) (by rw [f35.fz s3 (by simp), z3]) (by rw [f35.mm t3 (by simp), o3, hk]) (by rw [f35.fz t3 (by simp), y3]) (by simp [put_get, e0]) (by simp [put_get, e2]) (by simp [put_get, e5]) (by simp [put_get])
  · have hje : j = 2 := by omega
    subst hje
    have o2 : outJ D 2 = (getM (view D 0) (view D 1)).getD zPin := by unfold outJ; rw [if_neg (by omega), if_neg (by omega)]
    have hn2 : pLoad P 3 (pt (sz w1) 0) w3 = some (i64 (outJ D 2).s, w3) := by rw [ld3 (by rw [o3, pinL_len]; omega), o3, pg0]
    have hl2 : pLoad P 87 (pt (sz w1) 0) w3 = some (pinV (outJ D 2), w3) := pld87 o3
    have hsr : ∀ q : PinP, pStore P 87 (pt (sz w) 0) (pinV q) w3 = some (wr w3 (sz w) (pinL q)) := fun q => pst87 (by rw [m3]; rfl) z3
    have hsz : pStore P 87 (pt (sz w) 0) (Value.agg #[Value.int .i64 0, Value.int .i64 0, Value.int .i64 0, Value.int .i64 0, Value.int .i64 0, Value.int .i64 0]) w3 = some (wr w3 (sz w) (pinL zPin)) := hsr zPin
    have hlr : ∀ q : PinP, pLoad P 87 (pt (sz w) 0) (wr w3 (sz w) (pinL q)) = some (pinV q, wr w3 (sz w) (pinL q)) := fun q => pld87 (by rw [mm_wr_same z3])
    have gF : ∀ l, Fr [] w (wr w3 (sz w) l) := fun l => g3.wr (.inr (Nat.le_refl _)) _
    cases hg : getM (view D 0) (view D 1) with
    | none =>
      rw [hg] at o2
      have os : (outJ D 2).s = 0 := by rw [o2]; rfl
      try simp (maxDischargeDepth := 8) [↓sC, sB, sM, e2, e5, e19, hn2, os, hsz, hlr, -st87, -ld87, -ld3]
      exact ⟨.inr ⟨rfl, rfl⟩, gF _⟩
    | some q =>
      rw [hg] at o2
      have hoq : outJ D 2 = q := o2
      have hkq := (getM_ok hg).1
      rw [hoq] at hn2 hl2
      have c3 : (q.s = 0) = False := eq_false (by omega)
      try simp (maxDischargeDepth := 8) [↓sC, sB, sM, e2, e5, e19, hn2, c3, hl2, hsr, hlr, -st87, -ld87, -ld3]
      exact ⟨.inl ⟨q, rfl, rfl⟩, gF _⟩
theorem get_bad {w : World} {b : Nat} {D : DD} {F : List Nat} (h : IsD w b D F) (hr : reachM D ≠ 0) : Ret P 60 #[pt b 0] w fun x w' => x = .tuple #[pinV zPin, i64 (reachM D)] ∧ Fr [] w w' := by
  refine F60ok ?_
  unfold F60
  obtain ⟨W, hW⟩ : ∃ W, W = nw w (pinL zPin) 87 := ⟨_, rfl⟩
  have fW : Fr [] w W := by rw [hW]; exact (Fr.refl [] w).nw _ _
  have hWm : mm W (sz w) = pinL zPin := by rw [hW]; simp [sM]
  have hWz : fz W (sz w) = false := by rw [hW]; simp [sM]
  have hWs : sz W = sz w + 1 := by rw [hW]; simp [sM]
  unfold pinL zPin at hW
  try simp (maxDischargeDepth := 8) [↓sC, sB, sM, ← hW]
  refine (reached_spec (h.fr0 fW)).call ?_
  rintro _ w1 ⟨rfl, f1⟩
  have m1 : mm w1 (sz w) = pinL zPin := by rw [f1.mm (by omega) (by simp), hWm]
  have z1 : fz w1 (sz w) = false := by rw [f1.fz (by omega) (by simp), hWz]
  have c1 : (reachM D = 0) = False := eq_false hr
  have hsz : pStore P 87 (pt (sz w) 0) (Value.agg #[Value.int .i64 0, Value.int .i64 0, Value.int .i64 0, Value.int .i64 0, Value.int .i64 0, Value.int .i64 0]) w1 = some (wr w1 (sz w) (pinL zPin)) := pst87 (p := zPin) (by rw [m1]; rfl) z1
  have hlr : pLoad P 87 (pt (sz w) 0) (wr w1 (sz w) (pinL zPin)) = some (pinV zPin, wr w1 (sz w) (pinL zPin)) := pld87 (by rw [mm_wr_same z1])
  try simp (maxDischargeDepth := 8) [↓sC, sB, sM, c1, hsz, hlr, -st87, -ld87]
  exact (fW.trans0 f1).wr (.inr (Nat.le_refl _)) _
end Go.Proofs.Yticncfkpfpkfoaa

set_option linter.unusedVariables false
set_option linter.unusedSimpArgs false
namespace Go.Proofs.Yticncfkpfpkfoaa
open Go

def pinOkF (P : Program) : List Field → List TypeId → Nat → Bool
  | [], [], _ => true
  | f :: fs, t :: ts, n => Nat.beq f.offset n && !(f.name == "_") && Nat.beq f.type t && tyOk P t && !isAggB P t && pinOkF P fs ts (n + 1)
  | _, _, _ => false
def pinCellsEq (P : Program) : List TypeId → List Value → List Value → List Bool → Prop
  | [], [], [], [] => True
  | t :: ts, x :: xs, y :: ys, b :: bs => cellEq P t x y b ∧ pinCellsEq P ts xs ys bs
  | _, _, _, _ => False
theorem pinFieldsEq_of : ∀ (fs : List Field) (ts : List TypeId) (n : Nat) (xs ys : List Value) (bs : List Bool), pinOkF P fs ts n = true → pinCellsEq P ts xs ys bs → fieldsEq P fs xs ys bs n := by
  intro fs
  induction fs with
  | nil =>
    intro ts n xs ys bs h h2
    cases ts with
    | nil => cases xs <;> cases ys <;> cases bs <;> first | trivial | exact h2.elim
    | cons t ts => simp [pinOkF] at h
  | cons f fs ih =>
    intro ts n xs ys bs h h2
    cases ts with
    | nil => simp [pinOkF] at h
    | cons t ts =>
      cases xs with
      | nil => exact h2.elim
      | cons x xs =>
        cases ys with
        | nil => exact h2.elim
        | cons y ys =>
          cases bs with
          | nil => exact h2.elim
          | cons b bs =>
            simp only [pinOkF, Bool.and_eq_true, Bool.not_eq_true', beq_eq_false_iff_ne] at h
            obtain ⟨⟨⟨⟨⟨h1, h3⟩, h4⟩, h5⟩, h6⟩, h7⟩ := h
            have e1 := Nat.eq_of_beq_eq_true h1
            have e4 := Nat.eq_of_beq_eq_true h4
            rw [e4.symm] at h5 h6
            exact ⟨e1, h3, h5, h6, by rw [e4]; exact h2.1, ih ts (n + 1) xs ys bs h7 h2.2⟩
theorem okF87 : pinOkF P (P.fieldsOf 87).toList [3, 3, 3, 3, 3, 3] 0 = true := by kernel_rfl
theorem und87f : P.underlying 87 = some (.struct (P.fieldsOf 87).toList.toArray) := by kernel_rfl
theorem stood87 : P.stoodInHeld 87 = false := by kernel_rfl
theorem pin_cells (p q : PinP) : pinCellsEq P [3, 3, 3, 3, 3, 3] (pinL p) (pinL q) [p.s == q.s, p.l == q.l, p.f == q.f, p.c == q.c, p.w == q.w, p.r == q.r] := by
  refine ⟨.inl ⟨.i64, _, _, und3, rfl, rfl, rfl⟩, .inl ⟨.i64, _, _, und3, rfl, rfl, rfl⟩, .inl ⟨.i64, _, _, und3, rfl, rfl, rfl⟩, .inl ⟨.i64, _, _, und3, rfl, rfl, rfl⟩, .inl ⟨.i64, _, _, und3, rfl, rfl, rfl⟩, .inl ⟨.i64, _, _, und3, rfl, rfl, rfl⟩, trivial⟩
theorem pin_all (p q : PinP) : [p.s == q.s, p.l == q.l, p.f == q.f, p.c == q.c, p.w == q.w, p.r == q.r].all id = decide (p = q) := by
  obtain ⟨a1, a2, a3, a4, a5, a6⟩ := p
  obtain ⟨b1, b2, b3, b4, b5, b6⟩ := q
  rw [Bool.eq_iff_iff]
  simp
theorem pin_fields {fs : List Field} (h : pinOkF P fs [3, 3, 3, 3, 3, 3] 0 = true) (p q : PinP) : fieldsEq P fs (pinL p).toArray.toList (pinL q).toArray.toList [p.s == q.s, p.l == q.l, p.f == q.f, p.c == q.c, p.w == q.w, p.r == q.r] 0 :=
  pinFieldsEq_of fs _ 0 _ _ _ h (pin_cells p q)
theorem pEq87 {lit : Bool} {w : World} {fs : List Field} (hu : P.underlying 87 = some (.struct fs.toArray)) (h : pinOkF P fs [3, 3, 3, 3, 3, 3] 0 = true) (p q : PinP) : pBin P .eql 87 lit (.agg (pinL p).toArray) (.agg (pinL q).toArray) w = some (.bool (decide (p = q)), w) := by
  have hr := pEq_struct (P := P) (t := 87) (lit := lit) (w := w) (xs := (pinL p).toArray) (ys := (pinL q).toArray) hu stood87 eqg87 (pin_fields h p q)
  rw [pin_all] at hr
  exact hr
theorem pNe87 {lit : Bool} {w : World} {fs : List Field} (hu : P.underlying 87 = some (.struct fs.toArray)) (h : pinOkF P fs [3, 3, 3, 3, 3, 3] 0 = true) (p q : PinP) : pBin P .neq 87 lit (.agg (pinL p).toArray) (.agg (pinL q).toArray) w = some (.bool (!decide (p = q)), w) := by
  have hr := pNe_struct (P := P) (t := 87) (lit := lit) (w := w) (xs := (pinL p).toArray) (ys := (pinL q).toArray) hu stood87 eqg87 (pin_fields h p q)
  rw [pin_all] at hr
  exact hr
theorem eqPin {lit : Bool} {w : World} {p q : PinP} : pBin P .eql 87 lit (pinV p) (pinV q) w = some (.bool (decide (p = q)), w) := pEq87 und87f okF87 p q
theorem nePin {lit : Bool} {w : World} {p q : PinP} : pBin P .neq 87 lit (pinV p) (pinV q) w = some (.bool (!decide (p = q)), w) := pNe87 und87f okF87 p q
theorem eqRefPin {lit : Bool} {w : World} {p q : PinP} : pBin P .eql 93 lit (pinV p) (pinV q) w = some (.bool (decide (p = q)), w) := by
  have hu := arrE_und arrE93
  obtain ⟨inf, hi⟩ := tyOk_info tyOk3
  have e1 : pinV p = .agg (((pinNs p).map (Value.int .i64)).toArray) := rfl
  have e2 : pinV q = .agg (((pinNs q).map (Value.int .i64)).toArray) := rfl
  rw [e1, e2]
  simp only [pBin, runV, Sem.run_bind, run_eqGuard_agg w _ _ _ _ _ _ eqg93, Result.andThen_ok, run_eql_struct]
  rw [run_equalIn_array (w := w) 9999 _ _ hu hi, cellsOf3, run_eqItems_int intK3 cellsOf3 tyOk3 isAggB3 (n := 6) _ _ rfl rfl w _ (by simp)]
  simp only [Result.andThen_ok]
  rw [all_range_eq (n := 6) rfl rfl]
  have : decide (pinNs p = pinNs q) = decide (p = q) := by
    obtain ⟨a1, a2, a3, a4, a5, a6⟩ := p
    obtain ⟨b1, b2, b3, b4, b5, b6⟩ := q
    rw [decide_eq_decide]
    simp [pinNs]
  rw [this]

theorem reach_calm {N : Nat} {D : DD} (hc : CalmN N D) (hN : 2 ≤ N) : reachM D = 0 := by unfold reachM; rw [if_neg (by simp [hc.down]), if_neg (by rw [hc.len]; omega)]
theorem put_ok {w : World} {b N k : Nat} {D : DD} {F : List Nat} {p : PinP} (h : IsD w b D F) (hc : CalmN N D) (hp : D.pend = []) (hN : 2 ≤ N) (hk : okPin p) (hkk : p.s % 2 = (k : Int)) (hwr : D.writes ≤ 1000000) :
    Ret P 59 #[pt b 0, pinV p] w fun x w' => x = i64 0 ∧ ∃ D' F', IsD w' b D' F' ∧ Grow F w F' w' ∧ CalmN N D' ∧ D'.pend = [] ∧ (∀ i, view D' i = if i = k then sealOf (pinB p) else view D i) ∧ D'.writes ≤ D.writes + 2 := by
  obtain ⟨D', h1, h2, h3, h4, h5⟩ := put_calm hc hp hN hk hkk
  refine (put_spec h (by rw [hp]; simp) (by omega)).mono ?_
  rintro x w' ⟨rfl, F', hd, hg⟩
  rw [h1] at hd ⊢
  exact ⟨rfl, D', F', hd, hg, h2, h3, h4, h5⟩
theorem put_no {w : World} {b N : Nat} {D : DD} {F : List Nat} {p : PinP} (h : IsD w b D F) (hc : CalmN N D) (hp : D.pend = []) (hN : 2 ≤ N) (hk : ¬ okPin p) (hwr : D.writes ≤ 1000000) :
    Ret P 59 #[pt b 0, pinV p] w fun x w' => x = i64 1 ∧ ∃ F', IsD w' b D F' ∧ Grow F w F' w' := by
  have hG : putM p D = (D, 1) := by unfold putM; rw [if_neg (by simp [reach_calm hc hN]), if_pos hk]
  refine (put_spec h (by rw [hp]; simp) (by omega)).mono ?_
  rintro x w' ⟨rfl, F', hd, hg⟩
  rw [hG] at hd ⊢
  exact ⟨rfl, F', hd, hg⟩

theorem speaks22 {w : World} : Ret P 57 #[] w fun v w' => v = .bool true ∧ Fr [] w w' := by
  refine F57ok ?_
  unfold F57
  obtain ⟨p, hp⟩ : ∃ p : PinP, p = ⟨4, 2, 1, 3, 0, 9⟩ := ⟨_, rfl⟩
  obtain ⟨q, hq⟩ : ∃ q : PinP, q = ⟨5, 2, 1, 3, 0, 9⟩ := ⟨_, rfl⟩
  have okp : okPin p := by rw [hp]; decide
  have okq : okPin q := by rw [hq]; decide
  have hbp : ∀ w, pBuild P 87 [(0, i64 4), (1, i64 2), (2, i64 1), (3, i64 3), (5, i64 9)] w = some (pinV p, w) := fun w => by rw [bf87 (by simp), hp]; rfl
  have hbz : ∀ w, pBuild P 87 [] w = some (pinV zPin, w) := fun w => by rw [bf87 (by simp)]; rfl
  have hnew : Ret P 27 #[i64 2] w _ := new_spec (w := w) (n := 2) (by omega) (by omega)
  refine hnew.call ?_
  rintro _ w1 ⟨b, F, rfl, hd1, f1, hF⟩
  have hc1 := newN_calm 2
  try simp (maxDischargeDepth := 8) [↓sC, sB, sM, hbp, hbz, -bf87]
  refine (get_spec hd1 (reach_calm hc1 (by omega))).call ?_
  rintro x w2 ⟨hx, f2⟩
  have hg0 : getM (view (newD 2) 0) (view (newD 2) 1) = none := by
    unfold getM
    rw [newN_view (by omega), newN_view (by omega), ofM_bad notWhole_zb]
    rfl
  rw [hg0] at hx
  obtain rfl : x = .tuple #[pinV zPin, i64 6] := by
    rcases hx with ⟨q, hq, _⟩ | ⟨_, hx⟩
    · cases hq
    · exact hx
  obtain ⟨W3, hW3⟩ : ∃ W3, W3 = wr (nw w2 (pinL zPin) 87) (sz w2) (pinL zPin) := ⟨_, rfl⟩
  have fW3 : Fr [] w2 W3 := by rw [hW3]; exact ((Fr.refl [] w2).nw _ _).wr (.inr (Nat.le_refl _)) _
  have hst3 : pStore P 87 (pt (sz w2) 0) (pinV zPin) (nw w2 [Value.int .i64 0, Value.int .i64 0, Value.int .i64 0, Value.int .i64 0, Value.int .i64 0, Value.int .i64 0] 87) = some W3 := by rw [hW3]; exact pst87 (by simp [sM]) (by simp [sM])
  obtain ⟨W4, hW4⟩ : ∃ W4, W4 = wr (nw W3 (pinL zPin) 87) (sz W3) (pinL p) := ⟨_, rfl⟩
  have fW4 : Fr [] W3 W4 := by rw [hW4]; exact ((Fr.refl [] W3).nw _ _).wr (.inr (Nat.le_refl _)) _
  have m4 : mm W4 (sz W3) = pinL p := by rw [hW4, mm_wr_same (by simp [sM])]
  have z4 : fz W4 (sz W3) = false := by rw [hW4]; simp [sM]
  have hW4' : W4 = wr (nw W3 [Value.int .i64 0, Value.int .i64 0, Value.int .i64 0, Value.int .i64 0, Value.int .i64 0, Value.int .i64 0] 87) (sz W3) [i64 p.s, i64 p.l, i64 p.f, i64 p.c, i64 p.w, i64 p.r] := hW4
  have s4 := lt_of_fz z4
  have q4 : Fr [] w1 W4 := (f2.trans0 fW3).trans0 fW4
  try simp (maxDischargeDepth := 8) [↓sC, sB, sM, hst3, ← hW4', -st87]
  have hp1 := put_ok (p := p) (k := 0) (hd1.fr0 q4) hc1 rfl (by omega) okp (by rw [hp]; rfl) (by simp [newD])
  refine hp1.call ?_
  rintro _ w5 ⟨rfl, D5, F5, hd5, hg5, hc5, hn5, hv5, hw5⟩
  have hFlt : ∀ k ∈ F, sz w ≤ k ∧ k < sz w1 := fun k hk => ⟨hF k hk, hd1.ltP k hk⟩
  have q4s := q4.size
  have s3 := (f2.trans0 fW3).size
  have nb5 : sz W3 ∉ F := fun hk => by have := (hFlt _ hk).2; omega
  have m5 : mm w5 (sz W3) = pinL p := by rw [hg5.fr.mm s4 nb5, m4]
  have z5 : fz w5 (sz W3) = false := by rw [hg5.fr.fz s4 nb5, z4]
  have s5 := lt_of_fz z5
  have hn5' : pLoad P 3 (pt (sz W3) 0) w5 = some (i64 4, w5) := by rw [ld3 (by rw [m5, pinL_len]; omega), m5, pg0, hp]
  have hwr5 : IntKind.i64.wrap 5 = 5 := by decide
  obtain ⟨W6, hW6⟩ : ∃ W6, W6 = wr w5 (sz W3) (pinL q) := ⟨_, rfl⟩
  have fW6 : Fr [sz W3] w5 W6 := by rw [hW6]; exact (Fr.refl _ w5).wr (.inl (by simp)) _
  have m6 : mm W6 (sz W3) = pinL q := by rw [hW6, mm_wr_same z5]
  have z6 : fz W6 (sz W3) = false := by rw [hW6, fz_wr, z5]
  have hst6 : pStore P 3 (pt (sz W3) 0) (i64 5) w5 = some W6 := by rw [st3 (by simp) z5 (by rw [m5, pinL_len]; omega), m5, hW6, hp, hq]; rfl
  have hl6 : pLoad P 87 (pt (sz W3) 0) W6 = some (pinV q, W6) := pld87 m6
  have n5F : ∀ k ∈ F5, k ∉ [sz W3] := fun k hk hk2 => by
    rw [List.mem_singleton] at hk2
    subst hk2
    rcases hg5.new _ hk with h | h
    · exact nb5 h
    · omega
  try simp (maxDischargeDepth := 8) [↓sC, sB, sM, hn5', hwr5, hst6, hl6, -st3, -ld3, -ld87]
  have hp2 := put_ok (p := q) (k := 1) (hd5.fr fW6 n5F) hc5 hn5 (by omega) okq (by rw [hq]; rfl) (by simp [newD] at hw5; omega)
  refine hp2.call ?_
  rintro _ w7 ⟨rfl, D7, F7, hd7, hg7, hc7, hn7, hv7, hw7⟩
  have nb7 : sz W3 ∉ F5 := fun hk => n5F _ hk (by simp)
  have s6 := lt_of_fz z6
  have m7 : mm w7 (sz W3) = pinL q := by rw [hg7.fr.mm s6 nb7, m6]
  have s7 := hg7.fr.lt s6
  try simp (maxDischargeDepth := 8) [↓sC, sB, sM]
  refine (get_spec hd7 (reach_calm hc7 (by omega))).call ?_
  rintro x8 w8 ⟨hx8, f8⟩
  have hg8 : getM (view D7 0) (view D7 1) = some q := by
    unfold getM
    rw [hv7 0, hv7 1, if_neg (by omega), if_pos rfl, hv5 0, if_pos rfl, ofM_seal okp, ofM_seal okq]
    rw [hp, hq]
    rfl
  rw [hg8] at hx8
  obtain rfl : x8 = .tuple #[pinV q, i64 0] := by
    rcases hx8 with ⟨q', hq', hx⟩ | ⟨hno, _⟩
    · simp only [Option.some.injEq] at hq'; subst hq'; exact hx
    · cases hno
  have m8 : mm w8 (sz W3) = pinL q := by rw [f8.mm s7 (by simp), m7]
  have s8 := f8.lt s7
  obtain ⟨W9, hW9⟩ : ∃ W9, W9 = wr (nw w8 (pinL zPin) 87) (sz w8) (pinL q) := ⟨_, rfl⟩
  have fW9 : Fr [] w8 W9 := by rw [hW9]; exact ((Fr.refl [] w8).nw _ _).wr (.inr (Nat.le_refl _)) _
  have m9 : mm W9 (sz w8) = pinL q := by rw [hW9, mm_wr_same (by simp [sM])]
  have s9 : sz w8 < sz W9 := by rw [hW9]; simp [sM]
  have hst9 : pStore P 87 (pt (sz w8) 0) (pinV q) (nw w8 [Value.int .i64 0, Value.int .i64 0, Value.int .i64 0, Value.int .i64 0, Value.int .i64 0, Value.int .i64 0] 87) = some W9 := by rw [hW9]; exact pst87 (by simp [sM]) (by simp [sM])
  have m9' : mm W9 (sz W3) = pinL q := by rw [fW9.mm s8 (by simp), m8]
  have hl9 : pLoad P 87 (pt (sz w8) 0) W9 = some (pinV q, W9) := pld87 m9
  have hl9' : pLoad P 87 (pt (sz W3) 0) W9 = some (pinV q, W9) := pld87 m9'
  have heq : ∀ w, pBin P .eql 87 false (pinV q) (pinV q) w = some (.bool true, w) := fun w => by rw [eqPin]; simp
  have g5 : Fr [] w w5 := ((f1.trans0 q4).trans hg5.fr (fun k hk => .inr (hFlt k hk).1))
  have hF5 : ∀ k ∈ F5, sz w ≤ k := fun k hk => by
    rcases hg5.new k hk with h | h
    · exact (hFlt k h).1
    · have := f1.size; omega
  have g7 : Fr [] w w7 := (g5.trans fW6 (fun k hk => .inr (by rw [List.mem_singleton] at hk; have := f1.size; omega))).trans hg7.fr (fun k hk => .inr (hF5 k hk))
  have g9 : Fr [] w W9 := (g7.trans0 f8).trans0 fW9
  try simp (maxDischargeDepth := 8) [↓sC, sB, sM, hst9, hl9, hl9', heq, -st87, -ld87]
  have hck := check_spec (w := W9) (p := q)
  refine hck.call ?_
  rintro _ w10 ⟨rfl, f10⟩
  rw [if_pos okq]
  try simp (maxDischargeDepth := 8) [↓sC, sB, sM, hbz, -bf87]
  have hck2 := check_spec (w := w10) (p := zPin)
  refine hck2.call ?_
  rintro _ w11 ⟨rfl, f11⟩
  rw [if_neg (by decide)]
  try simp (maxDischargeDepth := 8) [↓sC, sB, sM]
  exact (g9.trans0 f10).trans0 f11
end Go.Proofs.Yticncfkpfpkfoaa
