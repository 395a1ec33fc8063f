/- PinRows: the law. Printed by prows.py. -/
import Derived.Test.YticncfkpfpkfoaaSim
import Derived.Test.YticncfkpfpkfoaaPChecks
import Derived.Test.YticncfkpfpkfoaaWPinR
set_option linter.unusedVariables false
set_option linter.unusedSimpArgs false
namespace Go.Proofs.Yticncfkpfpkfoaa
open Go

theorem flat_setP : ∀ {R : List PinP} {i : Nat} {q : PinP} {tl : List Value} {n : Int}, R[i]? = some q → (flat pinL R ++ tl).set (i * 6) (i64 n) = flat pinL (R.set i { q with s := n }) ++ tl := by
  intro R
  induction R with
  | nil => intro i q tl n h; simp at h
  | cons r R ih =>
    intro i q tl n h
    cases i with
    | zero =>
      simp only [List.getElem?_cons_zero, Option.some.injEq] at h
      subst h
      rfl
    | succ i =>
      simp only [List.getElem?_cons_succ] at h
      have := ih (tl := tl) (n := n) h
      have e : (i + 1) * 6 = i * 6 + 1 + 1 + 1 + 1 + 1 + 1 := by omega
      rw [e]
      simp only [flat, List.map_cons, List.flatten_cons, List.set_cons_succ, pinL, List.cons_append, List.nil_append] at this ⊢
      rw [this]
theorem pinL6 (R : List PinP) : ∀ q ∈ R, (pinL q).length = 6 := fun _ _ => rfl
theorem row_pin {w : World} {g i : Nat} {R : List PinP} {tl : List Value} {q : PinP} (h : mm w g = flat pinL R ++ tl) (hq : R[i]? = some q) : pLoad P 87 (pt g (i * 6)) w = some (pinV q, w) := by
  have hi := (List.getElem?_eq_some_iff.1 hq).1
  have hl := flat_len (pinL6 R)
  have ht := flat_take_drop (pinL6 R) hq
  rw [ld87 (by rw [h, List.length_append, hl]; omega), h, List.drop_append_of_le_length (by rw [hl]; omega), List.take_append_of_le_length (by rw [List.length_drop, hl]; omega), ht]
  rfl
theorem get_top {a b : List UInt8} {q : PinP} {k : Nat} (hk : k < 2) (hq : okPin q) (hs : q.s % 2 = (k : Int)) (hx : (if k = 0 then a else b) = sealOf (pinB q))
    (ho : ∀ p, sideM (1 - (k : Int)) (ofM (if k = 0 then b else a)) = some p → p.s < q.s) : getM a b = some q := by
  unfold getM
  match k, hk with
  | 0, _ =>
    rw [if_pos rfl] at hx ho
    have hs' : q.s % 2 = 0 := hs
    have h1 : sideM 0 (ofM a) = some q := by rw [hx, ofM_seal hq]; simp only [sideM]; rw [if_pos hs']
    have h2 : ∀ p, sideM 1 (ofM b) = some p → p.s < q.s := ho
    rw [h1]
    cases hy : sideM 1 (ofM b) with
    | none => rfl
    | some y => have := h2 y hy; simp only [newerM]; rw [if_neg (by omega)]
  | 1, _ =>
    rw [if_neg (by omega)] at hx ho
    have hs' : q.s % 2 = 1 := hs
    have h1 : sideM 1 (ofM b) = some q := by rw [hx, ofM_seal hq]; simp only [sideM]; rw [if_pos hs']
    have h2 : ∀ p, sideM 0 (ofM a) = some p → p.s < q.s := ho
    rw [h1]
    cases hy : sideM 0 (ofM a) with
    | none => rfl
    | some y => have := h2 y hy; simp only [newerM]; rw [if_pos (by omega)]
def PinsOn (D : DD) (R : List PinP) (j : Nat) : Prop :=
  (∀ i, i < j → ∃ q, R[i]? = some q ∧ q.s = ((i + 1 : Nat) : Int) ∧ okPin q) ∧ (1 ≤ j → ∃ q, R[j - 1]? = some q ∧ view D (j % 2) = sealOf (pinB q)) ∧ (2 ≤ j → ∃ q, R[j - 2]? = some q ∧ view D ((j - 1) % 2) = sealOf (pinB q)) ∧ (j ≤ 1 → view D 0 = zb 64)
theorem pins_step {D D' : DD} {R : List PinP} {j : Nat} {q : PinP} (h : PinsOn D R j) (hj : j < R.length) (hq : okPin q) (hqs : q.s = ((j + 1 : Nat) : Int)) (hv : ∀ i, view D' i = if i = (j + 1) % 2 then sealOf (pinB q) else view D i) :
    PinsOn D' (R.set j q) (j + 1) ∧ getM (view D' 0) (view D' 1) = some q := by
  obtain ⟨h1, h2, h3, h4⟩ := h
  have hjs : (R.set j q)[j]? = some q := by rw [List.getElem?_set, if_pos rfl, if_pos hj]
  refine ⟨⟨fun i hi => ?_, fun _ => ⟨q, hjs, by rw [hv, if_pos rfl]⟩, fun h2j => ?_, fun hj1 => ?_⟩, ?_⟩
  · by_cases hij : i = j
    · subst hij; exact ⟨q, hjs, hqs, hq⟩
    · obtain ⟨q0, a, b, c⟩ := h1 i (by omega)
      exact ⟨q0, by rw [List.getElem?_set, if_neg (fun h => hij h.symm)]; exact a, b, c⟩
  · obtain ⟨q0, a, b⟩ := h2 (by omega)
    refine ⟨q0, ?_, ?_⟩
    · rw [show j + 1 - 2 = j - 1 by omega, List.getElem?_set, if_neg (by omega)]; exact a
    · rw [show j + 1 - 1 = j by omega, hv, if_neg (by omega)]; exact b
  · rw [hv, if_neg (by omega)]; exact h4 (by omega)
  · have hother : ∀ p, sideM (1 - (((j + 1) % 2 : Nat) : Int)) (ofM (if (j + 1) % 2 = 0 then view D' 1 else view D' 0)) = some p → p.s < q.s := by
      intro p hp
      by_cases hj0 : j = 0
      · subst hj0
        rw [if_neg (by omega), hv, if_neg (by omega), h4 (by omega), ofM_bad notWhole_zb] at hp
        cases hp
      · obtain ⟨q0, a, b⟩ := h2 (by omega)
        obtain ⟨q1, a1, b1, c1⟩ := h1 (j - 1) (by omega)
        rw [a] at a1
        simp only [Option.some.injEq] at a1
        subst a1
        have hc : (if (j + 1) % 2 = 0 then view D' 1 else view D' 0) = sealOf (pinB q0) := by
          by_cases hp2 : (j + 1) % 2 = 0
          · rw [if_pos hp2, hv, if_neg (by omega), ← b, show j % 2 = 1 by omega]
          · rw [if_neg hp2, hv, if_neg (by omega), ← b, show j % 2 = 0 by omega]
        rw [hc, ofM_seal c1] at hp
        have := (sideM_some hp).1
        simp only [Option.some.injEq] at this
        subst this
        rw [b1, hqs]; omega
    refine get_top (k := (j + 1) % 2) (by omega) hq (by rw [hqs]; omega) ?_ hother
    by_cases hp2 : (j + 1) % 2 = 0
    · rw [if_pos hp2, hv, if_pos hp2.symm]
    · rw [if_neg hp2, hv, if_pos (by omega)]
theorem view_calm {N : Nat} {D : DD} (hc : CalmN N D) {k : Nat} (hk : k < N) (s : List UInt8) : ∀ i, view (writeD D (k : Int) s) i = if i = k then s else view D i := fun i => by
  rw [view_write (hc.ok hk)]
  by_cases hi : i = k
  · subst hi; rw [if_pos rfl, if_pos rfl]
  · rw [if_neg (by omega), if_neg hi]

def RwI (w : World) (n b g c : Nat) (x1 x2 : Value) (m : Nat) (e : Env) (w' : World) : Prop :=
  ∃ (j : Nat) (R : List PinP) (tl : List Value) (D : DD) (F : List Nat), m = n - j ∧ j ≤ n ∧ Fr [] w w' ∧ IsD w' b D F ∧ (∀ k ∈ F, sz w ≤ k ∧ k ≠ g) ∧ CalmN 2 D ∧ D.pend = [] ∧ D.writes ≤ 2 * j ∧ mm w' g = flat pinL R ++ tl ∧ fz w' g = false ∧ R.length = n ∧ PinsOn D R j ∧
    e 0 = sl g 0 n c ∧ e 1 = x1 ∧ e 2 = x2 ∧ e 7 = pt b 0 ∧ e 38 = i64 n ∧ e 39 = i64 j
theorem rows_step {w : World} {n b g c : Nat} {x1 x2 : Value} (hn : n ≤ 20) (hg : sz w ≤ g) {m : Nat} {e : Env} {w1 : World} (hI : RwI w n b g c x1 x2 m e w1) {K : KT} (hN : ∀ m' e' w', m' < m → RwI w n b g c x1 x2 m' e' w' → K .normal e' w')
    (hX : ∀ e' w', RwI w n b g c x1 x2 0 e' w' → K (.exit 0) e' w') (hR : ∀ e' w', Fr [] w w' → e' 6 = .bool true → K .ret e' w') : F16B0 e w1 K := by
  obtain ⟨j, R, tl, D, F, hm, hj, hf, hd, hF, hc, hp, hwr, hmm, hz, hRl, hon, e0, e1, e2, e7, e38, e39⟩ := hI
  subst hm
  unfold F16B0
  by_cases hjl : j < n
  · have t1 : (j < n) = True := eq_true hjl
    have t2 : ((j : Int) < n) = True := eq_true (by omega)
    obtain ⟨r, hr⟩ : ∃ r, R[j]? = some r := ⟨_, List.getElem?_eq_getElem (by omega)⟩
    obtain ⟨q, hq⟩ : ∃ q : PinP, q = { r with s := ((j + 1 : Nat) : Int) } := ⟨_, rfl⟩
    have hqs : q.s = ((j + 1 : Nat) : Int) := by rw [hq]
    have hgs := lt_of_fz hz
    obtain ⟨W1, hW1⟩ : ∃ W1, W1 = wr w1 g (flat pinL (R.set j q) ++ tl) := ⟨_, rfl⟩
    have fW1 : Fr [g] w1 W1 := by rw [hW1]; exact (Fr.refl _ w1).wr (.inl (by simp)) _
    have mW1 : mm W1 g = flat pinL (R.set j q) ++ tl := by rw [hW1, mm_wr_same hz]
    have zW1 : fz W1 g = false := by rw [hW1, fz_wr, hz]
    have hia : ∀ w', pIndexAddr P 85 (sl g 0 n c) (i64 j) w' = some (pt g (j * 6), w') := fun w' => by
      have := ia85 (w := w') (b := g) (o := 0) (n := n) (c := c) (k := .i64) (j := (j : Int)) (by omega) (by omega)
      rw [this]; simp
    have hll : (flat pinL R ++ tl).length = n * 6 + tl.length := by rw [List.length_append, flat_len (pinL6 R), hRl]
    have hst : pStore P 3 (pt g (j * 6)) (i64 ((j + 1 : Nat) : Int)) w1 = some W1 := by
      rw [st3 (by simp) hz (by rw [hmm, hll]; omega), hmm, flat_setP hr, hW1, hq]
    have hwj : IntKind.i64.wrap ((j : Int) + 1) = ((j + 1 : Nat) : Int) := wrap64 (by omega) (by omega)
    have hjs : (R.set j q)[j]? = some q := by rw [List.getElem?_set, if_pos rfl, if_pos (by omega)]
    have hl1 := row_pin mW1 hjs
    have nFg : ∀ k ∈ F, k ∉ [g] := fun k hk hk2 => by rw [List.mem_singleton] at hk2; exact (hF k hk).2 hk2
    have g1 : Fr [] w W1 := hf.trans fW1 (fun k hk => .inr (by rw [List.mem_singleton] at hk; omega))
    try simp (maxDischargeDepth := 8) [↓sC, sB, sM, letK_def, e0, e38, e39, t1, t2, hwj, hia, hst, hl1, -st3, -ld87, -Int.natCast_add]
    have hck := check_spec (w := W1) (p := q)
    refine hck.call ?_
    rintro _ w2 ⟨rfl, f2⟩
    have m2 : mm w2 g = flat pinL (R.set j q) ++ tl := by rw [f2.mm (lt_of_fz zW1) (by simp), mW1]
    have z2 : fz w2 g = false := by rw [f2.fz (lt_of_fz zW1) (by simp), zW1]
    by_cases hk : okPin q
    · rw [if_pos hk]
      have hl2 := row_pin m2 hjs
      try simp (maxDischargeDepth := 8) [↓sC, sB, sM, e0, e7, hia, hl2, -ld87, -Int.natCast_add]
      refine (put_ok (k := (j + 1) % 2) (((hd.fr fW1 nFg)).fr0 f2) hc hp (by omega) hk (by rw [hqs]; omega) (by omega)).call ?_
      rintro _ w3 ⟨rfl, D3, F3, hd3, hg3, hc3, hp3, hv3, hw3⟩
      obtain ⟨hon3, hget⟩ := pins_step hon (by omega) hk hqs hv3
      have hF3 : ∀ k ∈ F3, sz w ≤ k ∧ k ≠ g := fun k hk => by
        rcases hg3.new k hk with h | h
        · exact hF k h
        · have := (g1.trans0 f2).size; have := lt_of_fz z2; omega
      have gF : g ∉ F := fun hk => (hF _ hk).2 rfl
      have m3 : mm w3 g = flat pinL (R.set j q) ++ tl := by rw [hg3.fr.mm (lt_of_fz z2) gF, m2]
      have z3 : fz w3 g = false := by rw [hg3.fr.fz (lt_of_fz z2) gF, z2]
      have g3 : Fr [] w w3 := (g1.trans0 f2).trans hg3.fr (fun k hk => .inr (hF k hk).1)
      try simp (maxDischargeDepth := 8) [↓sC, sB, sM, e7, -Int.natCast_add]
      refine (get_spec hd3 (reach_calm hc3 (by omega))).call ?_
      rintro x4 w4 ⟨hx4, f4⟩
      rw [hget] at hx4
      obtain rfl : x4 = .tuple #[pinV q, i64 0] := by
        rcases hx4 with ⟨q', hq', hx⟩ | ⟨hno, _⟩
        · simp only [Option.some.injEq] at hq'; subst hq'; exact hx
        · cases hno
      obtain ⟨X, hX⟩ : ∃ X, X = wr (nw w4 (pinL zPin) 87) (sz w4) (pinL q) := ⟨_, rfl⟩
      have fX : Fr [] w4 X := by rw [hX]; exact ((Fr.refl [] w4).nw _ _).wr (.inr (Nat.le_refl _)) _
      have mX : mm X (sz w4) = pinL q := by rw [hX, mm_wr_same (by simp [sM])]
      have stX : pStore P 87 (pt (sz w4) 0) (pinV q) (nw w4 [Value.int .i64 0, Value.int .i64 0, Value.int .i64 0, Value.int .i64 0, Value.int .i64 0, Value.int .i64 0] 87) = some X := by rw [hX]; exact pst87 (by simp [sM]) (by simp [sM])
      have q4 := f4.trans0 fX
      have fXd := fX.drew
      have mXg : mm (drew X) g = flat pinL (R.set j q) ++ tl := by rw [mm_drew, q4.mm (lt_of_fz z3) (by simp), m3]
      have zXg : fz (drew X) g = false := by rw [fz_drew, q4.fz (lt_of_fz z3) (by simp), z3]
      have lX : pLoad P 87 (pt (sz w4) 0) (drew X) = some (pinV q, drew X) := pld87 (by rw [mm_drew, mX])
      have lR := row_pin mXg hjs
      have hne : ∀ w, pBin P .neq 87 false (pinV q) (pinV q) w = some (.bool false, w) := fun w => by rw [nePin]; simp
      try simp (maxDischargeDepth := 8) [↓sC, sB, sM, e0, e39, stX, hia, lX, lR, hne, hwj, -st87, -ld87, -Int.natCast_add]
      exact hN (n - (j + 1)) _ _ (by omega) ⟨j + 1, R.set j q, tl, D3, F3, rfl, by omega, (g3.trans0 f4).trans0 fXd, hd3.fr0 (f4.trans0 fXd), hF3, hc3, hp3, by omega, mXg, zXg, by rw [List.length_set]; exact hRl, hon3,
        by simp [put_get, e0], by simp [put_get, e1], by simp [put_get, e2], by simp [put_get, e7], by simp [put_get, e38], by simp [put_get]⟩
    · rw [if_neg hk]
      try simp (maxDischargeDepth := 8) [↓sC, sB, sM, -Int.natCast_add]
      exact hR _ _ (g1.trans0 f2) (by simp [put_get])
  · have t1 : (j < n) = False := eq_false hjl
    have t2 : ((j : Int) < n) = False := eq_false (by omega)
    try simp (maxDischargeDepth := 8) [↓sC, sB, sM, e38, e39, t1, t2]
    exact hX _ _ ⟨j, R, tl, D, F, by omega, hj, hf, hd, hF, hc, hp, hwr, hmm, hz, hRl, hon, by simp [put_get, e0], by simp [put_get, e1], by simp [put_get, e2], by simp [put_get, e7], by simp [put_get, e38], by simp [put_get, e39]⟩

set_option maxRecDepth 20000 in
theorem pinRows_law {w : World} {v : Value} {L : List PinP} {at_ fill : UInt8} (h : RdV w v L.length (flat pinL L)) : Ret P 16 #[v, bv at_, bv fill] w fun x w' => x = .bool true ∧ Fr [] w w' := by
  refine F16ok ?_
  unfold F16
  obtain ⟨va, vc, hv⟩ := sl_of h
  have hlv : ∀ w, pBuiltin P .len #[85] 3 [v] w = some (i64 L.length, w) := fun w => by rw [hv]; exact len85
  have hb0 : ∀ w, pBuildSlice P 85 0 [] w = some (sl (sz w) 0 0 0, nw w [] 87) := fun w => by rw [bsl85 (by omega) (by simp)]; rfl
  try simp (maxDischargeDepth := 8) [↓sC, sB, sM, hb0, -bsl85]
  refine speaks22.call ?_
  rintro _ w1 ⟨rfl, f1⟩
  by_cases h2 : L.length < 2
  · have c1 : (L.length < 2) = True := eq_true h2
    have c2 : ((L.length : Int) < 2) = True := eq_true (by omega)
    try simp (maxDischargeDepth := 8) [↓sC, sB, sM, hlv, c1, c2]
    exact f1
  have c1 : (L.length < 2) = False := eq_false h2
  have c2 : ((L.length : Int) < 2) = False := eq_false (by omega)
  by_cases h20 : 20 < L.length
  · have c3 : (20 < L.length) = True := eq_true h20
    have c4 : ((20 : Int) < L.length) = True := eq_true (by omega)
    try simp (maxDischargeDepth := 8) [↓sC, sB, sM, hlv, c1, c2, c3, c4]
    exact f1
  have c3 : (20 < L.length) = False := eq_false h20
  have c4 : ((20 : Int) < L.length) = False := eq_false (by omega)
  have hnew : Ret P 27 #[i64 2] w1 _ := new_spec (w := w1) (n := 2) (by omega) (by omega)
  try simp (maxDischargeDepth := 8) [↓sC, sB, sM, hlv, c1, c2, c3, c4]
  refine hnew.call ?_
  rintro _ w2 ⟨b, F, rfl, hd2, f2, hF⟩
  have g2 := f1.trans0 f2
  have hm1 : ∀ u ∈ flat pinL L, u.oneCell' = true := fun u hu => by
    obtain ⟨l, hl, hu⟩ := List.mem_flatten.1 hu
    obtain ⟨p, _, rfl⟩ := List.mem_map.1 hl
    simp only [pinL, List.mem_cons, List.not_mem_nil, or_false] at hu
    rcases hu with rfl | rfl | rfl | rfl | rfl | rfl <;> rfl
  have fY : Fr [] w2 (nw w2 [] 87) := (Fr.refl [] w2).nw _ _
  obtain ⟨v', w3, hrun, hown, hgr, hv'⟩ := append_own2 (P := P) (t := 85) (ty := 85) (sz w2) sliceE85 hasZero87 cellsOf87 (by rw [zeroL87]; rfl) (by omega) (own_made (w := w2) (e := 87) (size := 6) (Nat.le_refl _)) (by rw [sz_nw]; omega) (h.fr0 (g2.trans0 fY)) (flat_len (pinL6 L)) hm1
    (by unfold maxLen; omega) (by rw [bytesOf87]; omega)
  have f3 := Fr.of_grown hgr
  have q3 : Fr [] w2 w3 := fY.trans f3 (fun k hk => .inr (by
    have : k = sz w2 := by simpa [Value.ownBlock] using hk
    omega))
  rw [Nat.zero_add, List.nil_append] at hown
  obtain ⟨hol, hoo⟩ := hown
  rcases hoo with ⟨_, hxs⟩ | ⟨g, cap, cur, rfl, hgb, hgh, hnc, hcm, hcs, htk⟩
  · omega
  have hmg : mm w3 g = cur.toList := by simp [mm, hgh]
  have hzg : fz w3 g = false := by simp [fz, hgh]
  have hmg2 : mm w3 g = flat pinL L ++ cur.toList.drop (flat pinL L).length := by
    rw [hmg, hol]
    conv => lhs; rw [← List.take_append_drop (L.length * 6) cur.toList, htk]
  have hlg : ∀ w, pBuiltin P .len #[85] 3 [sl g 0 L.length cap] w = some (i64 L.length, w) := fun w => len85
  try simp (maxDischargeDepth := 8) [↓sC, sB, sM, hlv, hrun, hlg]
  have hFw : ∀ k ∈ F, sz w ≤ k ∧ k ≠ g := fun k hk => ⟨by have := hF k hk; have := f1.size; omega, by have := hd2.ltP k hk; omega⟩
  have hwg : sz w ≤ g := by have := g2.size; omega
  refine loopE_of (RwI w L.length b g cap (bv at_) (bv fill)) L.length ⟨0, L, _, newD 2, F, rfl, by omega, g2.trans0 q3, hd2.fr0 q3, hFw, newN_calm 2, rfl, by simp [newD], hmg2, hzg, rfl, ⟨fun i hi => by omega, fun h => by omega, fun h => by omega, fun _ => newN_view (by omega)⟩,
    by simp [put_get, argE_get], by simp [put_get, argE_get], by simp [put_get, argE_get], by simp [put_get], by simp [put_get], by simp [put_get]⟩ ?_
  intro m e w4 hI
  refine rows_step (by omega) hwg hI (fun m' e' w' hlt hI' => ⟨m', hlt, hI'⟩) (fun e' w' hI' => ?_) (fun e' w' hf he => ?_)
  · obtain ⟨j, R, tl, D, F5, hj0, hj, g5, hd5, hF5, hc5, hp5, hw5, m5, z5, hRl, hon, e0, e1, e2, e7, e38, e39⟩ := hI'
    have hje : j = L.length := by omega
    subst hje
    obtain ⟨n, hn⟩ : ∃ n, n = L.length := ⟨_, rfl⟩
    rw [← hn] at hon hRl hj hw5 hlg e0
    obtain ⟨h1on, h2on, h3on, _⟩ := hon
    obtain ⟨qn, hqn, hvn⟩ := h2on (by omega)
    obtain ⟨qm, hqm, hvm⟩ := h3on (by omega)
    obtain ⟨qm', hqm', hms, hmk⟩ := h1on (n - 2) (by omega)
    rw [hqm] at hqm'
    simp only [Option.some.injEq] at hqm'
    subst hqm'
    have hqnk : okPin qn := by
      obtain ⟨q', a, _, c⟩ := h1on (n - 1) (by omega)
      rw [hqn] at a
      simp only [Option.some.injEq] at a
      subst a; exact c
    have hlg' : ∀ w, pBuiltin P .len #[85] 3 [sl g 0 n cap] w = some (i64 n, w) := hlg
    have hrm : ∀ w, pBin P .rem 3 true (i64 (n : Int)) (Value.int .i64 2) w = some (i64 ((n % 2 : Nat) : Int), w) := fun w => by
      rw [pBin_rem (by omega), Int.tmod_eq_emod_of_nonneg (by omega)]; rfl
    obtain ⟨k, hk⟩ : ∃ k, k = n % 2 := ⟨_, rfl⟩
    rw [← hk] at hrm hvn
    obtain ⟨s, hs⟩ : ∃ s, s = sealOf (pinB qn) := ⟨_, rfl⟩
    rw [← hs] at hvn
    have hs64 : s.length = 64 := by rw [hs]; exact sealOf_length (pinB_len hqnk)
    try simp (maxDischargeDepth := 8) [↓sC, sB, sM, e0, e7, hlg', hrm]
    have hrd := read_spec (x := (k : Int)) hd5 (by omega) (by omega)
    rw [hc5.ok (x := k) (by omega), if_pos rfl, show readD D (k : Int) = s from hvn] at hrd
    refine hrd.call ?_
    rintro _ w6 ⟨rfl, f6⟩
    obtain ⟨X1, hX1⟩ : ∃ X1, X1 = wr (nw w6 (bs (zb 64)) 25) (sz w6) (bs s) := ⟨_, rfl⟩
    have fX1 : Fr [] w6 X1 := by rw [hX1]; exact ((Fr.refl [] w6).nw _ _).wr (.inr (Nat.le_refl _)) _
    have x1m : mm X1 (sz w6) = bs s := by rw [hX1, mm_wr_same]; simp [sM]
    have x1z : fz X1 (sz w6) = false := by rw [hX1]; simp [sM]
    have st1 := sec_put (w := w6) hs64
    rw [← hX1] at st1
    obtain ⟨mb, hmb⟩ : ∃ mb, mb = at_.toNat % 64 := ⟨_, rfl⟩
    have hr5 : ∀ w, pBin P .rem 5 true (bv at_) (Value.int .u8 64) w = some (.int .u8 (mb : Int), w) := fun w => by
      show pBin P .rem 5 true (.int .u8 (at_.toNat : Int)) (Value.int .u8 64) w = _
      rw [pBin_rem (by omega), Int.tmod_eq_emod_of_nonneg (by omega), hmb]; rfl
    have hix : ∀ w', pIndexAddr P 25 (pt (sz w6) 0) (.int .u8 (mb : Int)) w' = some (pt (sz w6) mb, w') := fun w' => by
      rw [ia25 (by omega) (by omega)]; simp
    obtain ⟨y, hy⟩ : ∃ y : UInt8, y = gb s mb ^^^ (1 ||| (fill &&& 254)) := ⟨_, rfl⟩
    have hand : ∀ w, pBin P .and 5 true (bv fill) (Value.int .u8 254) w = some (bv (fill &&& 254), w) := fun w => pAnd8 (y := 254)
    have hor : ∀ w, pBin P .or 5 true (Value.int .u8 1) (bv (fill &&& 254)) w = some (bv (1 ||| (fill &&& 254)), w) := fun w => pOr8 (x := 1)
    have hxor : ∀ w, pBin P .xor 5 false (bv (gb s mb)) (bv (1 ||| (fill &&& 254))) w = some (bv y, w) := fun w => by rw [hy]; exact pXor8
    have hl5 : pLoad P 5 (pt (sz w6) mb) X1 = some (bv (gb s mb), X1) := by rw [ld5 (by rw [x1m, bs_length]; omega), x1m, gt_bs (by omega)]
    obtain ⟨X2, hX2⟩ : ∃ X2, X2 = wr X1 (sz w6) (bs (s.set mb y)) := ⟨_, rfl⟩
    have fX2 : Fr [] w6 X2 := by rw [hX2]; exact fX1.wr (.inr (Nat.le_refl _)) _
    have x2m : mm X2 (sz w6) = bs (s.set mb y) := by rw [hX2, mm_wr_same x1z]
    have x2s : sz w6 < sz X2 := by rw [hX2, sz_wr]; exact lt_of_fz x1z
    have hst5 : pStore P 5 (pt (sz w6) mb) (bv y) X1 = some X2 := by
      rw [st5 (by simp) x1z (by rw [x1m, bs_length]; omega), x1m, hX2]
      congr 2
      unfold bs
      rw [List.map_set]
    obtain ⟨s2, hs2⟩ : ∃ s2, s2 = s.set mb y := ⟨_, rfl⟩
    rw [← hs2] at x2m hX2
    have hs2l : s2.length = 64 := by rw [hs2, List.length_set]; exact hs64
    have lX2 := sec_cell x2m hs2l
    try simp (maxDischargeDepth := 8) [↓sC, sB, sM, e1, e2, e7, st1, hr5, hix, hand, hor, hxor, hl5, hst5, hrm, lX2, -st25, -ld25, -ld5, -st5, -ia25]
    have q6 := f6.trans0 fX2
    have hws := write_spec (x := (k : Int)) (s := s2) (hd5.fr0 q6) hs2l (by rw [hp5]; simp) (by omega)
    refine hws.call ?_
    rintro _ w7 ⟨rfl, F7, hd7, f7, hF7⟩
    have hc7 := hc5.write (x := k) (by omega) s2
    have hv7 := view_calm hc5 (k := k) (by omega) s2
    obtain ⟨D7, hD7⟩ : ∃ D7, D7 = writeD D (k : Int) s2 := ⟨_, rfl⟩
    rw [← hD7] at hd7 hc7 hv7
    have q6s := (g5.trans0 q6).size
    have gF5 : ∀ k, k ∈ F5 → sz w ≤ k := fun k hk => (hF5 k hk).1
    have x5 := lt_of_fz z5
    have nx : sz w6 ∉ F5 := fun hk => by have := hd5.ltP _ hk; have := f6.size; omega
    have m7 : mm w7 g = flat pinL R ++ tl := by rw [f7.mm (q6.lt x5) (fun hk => (hF5 _ hk).2 rfl), q6.mm x5 (by simp), m5]
    have x7m : mm w7 (sz w6) = bs s2 := by rw [f7.mm x2s nx, x2m]
    have x7s := f7.lt x2s
    have g7 : Fr [] w w7 := (g5.trans0 q6).trans f7 (fun k hk => .inr (gF5 k hk))
    have hsub : IntKind.i64.wrap ((n : Int) - 2) = ((n - 2 : Nat) : Int) := by rw [wrap64 (by omega) (by omega)]; omega
    have hia : ∀ w', pIndexAddr P 85 (sl g 0 n cap) (i64 ((n - 2 : Nat) : Int)) w' = some (pt g ((n - 2) * 6), w') := fun w' => by
      have := ia85 (w := w') (b := g) (o := 0) (n := n) (c := cap) (k := .i64) (j := ((n - 2 : Nat) : Int)) (by omega) (by omega)
      rw [this]; simp
    obtain ⟨n2, hn2⟩ : ∃ n2, n2 = n - 2 := ⟨_, rfl⟩
    rw [← hn2] at hsub hia hqm
    have lR := row_pin m7 hqm
    obtain ⟨X3, hX3⟩ : ∃ X3, X3 = wr (nw w7 (pinL zPin) 87) (sz w7) (pinL qm) := ⟨_, rfl⟩
    have fX3 : Fr [] w7 X3 := by rw [hX3]; exact ((Fr.refl [] w7).nw _ _).wr (.inr (Nat.le_refl _)) _
    have x3m : mm X3 (sz w7) = pinL qm := by rw [hX3, mm_wr_same (by simp [sM])]
    have x3s : sz w7 < sz X3 := by rw [hX3]; simp [sM]
    have st3 : pStore P 87 (pt (sz w7) 0) (pinV qm) (nw w7 [Value.int .i64 0, Value.int .i64 0, Value.int .i64 0, Value.int .i64 0, Value.int .i64 0, Value.int .i64 0] 87) = some X3 := by rw [hX3]; exact pst87 (by simp [sM]) (by simp [sM])
    have lX3 := sec_cell (show mm X3 (sz w6) = bs s2 by rw [fX3.mm x7s (by simp), x7m]) hs2l
    try simp (maxDischargeDepth := 8) [↓sC, sB, sM, e0, hsub, hia, lR, st3, lX3, -st87, -ld87, -ld25]
    refine (refOf_spec hs2l).call ?_
    rintro _ w8 ⟨⟨q2, b2, rfl, hq2⟩, f8⟩
    obtain ⟨V, hV⟩ : ∃ V, V = wr (nw w8 (pinL zPin) 93) (sz w8) (pinL q2) := ⟨_, rfl⟩
    have fV : Fr [] w8 V := by rw [hV]; exact ((Fr.refl [] w8).nw _ _).wr (.inr (Nat.le_refl _)) _
    have vm : mm V (sz w8) = pinL q2 := by rw [hV, mm_wr_same (by simp [sM])]
    have stV : pStore P 93 (pt (sz w8) 0) (pinV q2) (nw w8 [Value.int .i64 0, Value.int .i64 0, Value.int .i64 0, Value.int .i64 0, Value.int .i64 0, Value.int .i64 0] 93) = some V := by rw [hV]; exact pst93 (by simp [sM]) (by simp [sM])
    have hn8 : pLoad P 3 (pt (sz w8) 0) V = some (i64 q2.s, V) := by rw [ld3 (by rw [vm, pinL_len]; omega), vm, pg0]
    have q8 : Fr [] w7 V := (fX3.trans0 f8).trans0 fV
    have g8 := g7.trans0 q8
    have x8m : mm V (sz w7) = pinL qm := by rw [fV.mm (f8.lt x3s) (by simp), f8.mm x3s (by simp), x3m]
    have x8s := fV.lt (f8.lt x3s)
    have hsub1 : IntKind.i64.wrap ((n : Int) - 1) = ((n - 1 : Nat) : Int) := by rw [wrap64 (by omega) (by omega)]; omega
    obtain ⟨n1, hn1⟩ : ∃ n1, n1 = n - 1 := ⟨_, rfl⟩
    rw [← hn1] at hsub1
    have hvk : view D7 k = s2 := by rw [hv7, if_pos rfl]
    have hvo : view D7 ((n - 1) % 2) = sealOf (pinB qm) := by rw [hv7, if_neg (by omega)]; exact hvm
    have hgetm : (∀ p, sideM (k : Int) (ofM s2) = some p → p.s < qm.s) → getM (view D7 0) (view D7 1) = some qm := fun ho => by
      refine get_top (k := (n - 1) % 2) (by omega) hmk (by rw [hms]; omega) ?_ ?_
      · by_cases hz : (n - 1) % 2 = 0
        · rw [if_pos hz, ← hvo, hz]
        · rw [if_neg hz, ← hvo, show (n - 1) % 2 = 1 by omega]
      · intro p hp
        refine ho p ?_
        rw [show (k : Int) = 1 - (((n - 1) % 2 : Nat) : Int) by omega, ← hvk]
        by_cases hz : (n - 1) % 2 = 0
        · rw [if_pos hz] at hp; rw [show k = 1 by omega]; exact hp
        · rw [if_neg hz] at hp; rw [show k = 0 by omega]; exact hp
    have hrmk : ((k : Int) = (k : Int)) = True := eq_true rfl
    cases b2 with
    | false =>
      have hget := hgetm (fun p hp => by rw [hq2] at hp; cases hp)
      try simp (maxDischargeDepth := 8) [↓sC, sB, sM, stV, e7, -st93]
      refine (get_spec (hd7.fr0 q8) (reach_calm hc7 (by omega))).call ?_
      rintro x9 w9 ⟨hx9, f9⟩
      rw [hget] at hx9
      obtain rfl : x9 = .tuple #[pinV qm, i64 0] := by
        rcases hx9 with ⟨q', hq', hx⟩ | ⟨hno, _⟩
        · simp only [Option.some.injEq] at hq'; subst hq'; exact hx
        · cases hno
      obtain ⟨Y, hY⟩ : ∃ Y, Y = wr (nw w9 (pinL zPin) 87) (sz w9) (pinL qm) := ⟨_, rfl⟩
      have fY9 : Fr [] w9 Y := by rw [hY]; exact ((Fr.refl [] w9).nw _ _).wr (.inr (Nat.le_refl _)) _
      have y9m : mm Y (sz w9) = pinL qm := by rw [hY, mm_wr_same (by simp [sM])]
      have stY : pStore P 87 (pt (sz w9) 0) (pinV qm) (nw w9 [Value.int .i64 0, Value.int .i64 0, Value.int .i64 0, Value.int .i64 0, Value.int .i64 0, Value.int .i64 0] 87) = some Y := by rw [hY]; exact pst87 (by simp [sM]) (by simp [sM])
      have q9 := f9.trans0 fY9
      have lY : pLoad P 87 (pt (sz w9) 0) Y = some (pinV qm, Y) := pld87 y9m
      have lY2 : pLoad P 87 (pt (sz w7) 0) Y = some (pinV qm, Y) := pld87 (by rw [q9.mm x8s (by simp), x8m])
      have heq : ∀ w, pBin P .eql 87 false (pinV qm) (pinV qm) w = some (.bool true, w) := fun w => by rw [eqPin]; simp
      try simp (maxDischargeDepth := 8) [↓sC, sB, sM, stY, lY, lY2, heq, -st87, -ld87]
      exact g8.trans0 q9
    | true =>
      have k2 : okPin q2 := ofM_ok (by rw [hq2]; rfl)
      obtain ⟨par, hpar⟩ : ∃ par : Int, q2.s % 2 = par := ⟨_, rfl⟩
      have hr2 := remP k2 hpar
      by_cases hpk : par = (k : Int)
      · have d1 : (par = (k : Int)) = True := eq_true hpk
        by_cases hgt : (n1 : Int) < q2.s
        · have d2 : ((n1 : Int) < q2.s) = True := eq_true hgt
          try simp (maxDischargeDepth := 8) [↓sC, sB, sM, stV, hn8, hr2, hrm, d1, hsub1, d2, -st93, -ld3]
          exact g8
        · have d2 : ((n1 : Int) < q2.s) = False := eq_false hgt
          have hget := hgetm (fun p hp => by
            have hp1 := (sideM_some hp).1
            rw [hq2] at hp1
            have hp2 : q2 = p := by simpa using hp1
            subst hp2
            rw [hms]; omega)
          try simp (maxDischargeDepth := 8) [↓sC, sB, sM, stV, hn8, hr2, hrm, d1, hsub1, d2, e7, -st93, -ld3]
          refine (get_spec (hd7.fr0 q8) (reach_calm hc7 (by omega))).call ?_
          rintro x9 w9 ⟨hx9, f9⟩
          rw [hget] at hx9
          obtain rfl : x9 = .tuple #[pinV qm, i64 0] := by
            rcases hx9 with ⟨q', hq', hx⟩ | ⟨hno, _⟩
            · simp only [Option.some.injEq] at hq'; subst hq'; exact hx
            · cases hno
          obtain ⟨Y, hY⟩ : ∃ Y, Y = wr (nw w9 (pinL zPin) 87) (sz w9) (pinL qm) := ⟨_, rfl⟩
          have fY9 : Fr [] w9 Y := by rw [hY]; exact ((Fr.refl [] w9).nw _ _).wr (.inr (Nat.le_refl _)) _
          have y9m : mm Y (sz w9) = pinL qm := by rw [hY, mm_wr_same (by simp [sM])]
          have stY : pStore P 87 (pt (sz w9) 0) (pinV qm) (nw w9 [Value.int .i64 0, Value.int .i64 0, Value.int .i64 0, Value.int .i64 0, Value.int .i64 0, Value.int .i64 0] 87) = some Y := by rw [hY]; exact pst87 (by simp [sM]) (by simp [sM])
          have q9 := f9.trans0 fY9
          have lY : pLoad P 87 (pt (sz w9) 0) Y = some (pinV qm, Y) := pld87 y9m
          have lY2 : pLoad P 87 (pt (sz w7) 0) Y = some (pinV qm, Y) := pld87 (by rw [q9.mm x8s (by simp), x8m])
          have heq : ∀ w, pBin P .eql 87 false (pinV qm) (pinV qm) w = some (.bool true, w) := fun w => by rw [eqPin]; simp
          try simp (maxDischargeDepth := 8) [↓sC, sB, sM, stY, lY, lY2, heq, -st87, -ld87]
          exact g8.trans0 q9
      · have d1 : (par = (k : Int)) = False := eq_false hpk
        have hget := hgetm (fun p hp => by
          have hp1 := (sideM_some hp).1
          have hp3 := (sideM_some hp).2
          rw [hq2] at hp1
          have hp2 : q2 = p := by simpa using hp1
          subst hp2
          omega)
        try simp (maxDischargeDepth := 8) [↓sC, sB, sM, stV, hn8, hr2, hrm, d1, e7, -st93, -ld3]
        refine (get_spec (hd7.fr0 q8) (reach_calm hc7 (by omega))).call ?_
        rintro x9 w9 ⟨hx9, f9⟩
        rw [hget] at hx9
        obtain rfl : x9 = .tuple #[pinV qm, i64 0] := by
          rcases hx9 with ⟨q', hq', hx⟩ | ⟨hno, _⟩
          · simp only [Option.some.injEq] at hq'; subst hq'; exact hx
          · cases hno
        obtain ⟨Y, hY⟩ : ∃ Y, Y = wr (nw w9 (pinL zPin) 87) (sz w9) (pinL qm) := ⟨_, rfl⟩
        have fY9 : Fr [] w9 Y := by rw [hY]; exact ((Fr.refl [] w9).nw _ _).wr (.inr (Nat.le_refl _)) _
        have y9m : mm Y (sz w9) = pinL qm := by rw [hY, mm_wr_same (by simp [sM])]
        have stY : pStore P 87 (pt (sz w9) 0) (pinV qm) (nw w9 [Value.int .i64 0, Value.int .i64 0, Value.int .i64 0, Value.int .i64 0, Value.int .i64 0, Value.int .i64 0] 87) = some Y := by rw [hY]; exact pst87 (by simp [sM]) (by simp [sM])
        have q9 := f9.trans0 fY9
        have lY : pLoad P 87 (pt (sz w9) 0) Y = some (pinV qm, Y) := pld87 y9m
        have lY2 : pLoad P 87 (pt (sz w7) 0) Y = some (pinV qm, Y) := pld87 (by rw [q9.mm x8s (by simp), x8m])
        have heq : ∀ w, pBin P .eql 87 false (pinV qm) (pinV qm) w = some (.bool true, w) := fun w => by rw [eqPin]; simp
        try simp (maxDischargeDepth := 8) [↓sC, sB, sM, stY, lY, lY2, heq, -st87, -ld87]
        exact g8.trans0 q9
  · try simp (maxDischargeDepth := 8) [↓sC, sB, sM, he]
    exact hf
end Go.Proofs.Yticncfkpfpkfoaa
