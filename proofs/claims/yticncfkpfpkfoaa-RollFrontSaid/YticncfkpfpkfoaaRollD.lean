/- Append (f47). -/
import Derived.Test.YticncfkpfpkfoaaRollC
import Derived.Test.YticncfkpfpkfoaaCalmN
set_option linter.unusedVariables false
set_option linter.unusedSimpArgs false
namespace Go.Proofs.Yticncfkpfpkfoaa
open Go

/-- The writes of an entry, from its part i on. -/
def appGo (x : Nat) (B : List UInt8) : Nat → Nat → DD → DD × Int
  | 0, _, D => (D, 0)
  | k + 1, i, D =>
    if writeE D ((x + i : Nat) : Int) = 0 then appGo x B k (i + 1) (writeD D ((x + i : Nat) : Int) (sealOf (partS B (need B.length) i)))
    else (writeD D ((x + i : Nat) : Int) (sealOf (partS B (need B.length) i)), writeE D ((x + i : Nat) : Int))
theorem part_cut (B : List UInt8) (i : Nat) : (B.drop (min (60 * i) B.length)).take (min (60 * (i + 1)) B.length - min (60 * i) B.length) = (B.drop (60 * i)).take 60 := by
  by_cases h : 60 * i ≤ B.length
  · rw [Nat.min_eq_left h]
    by_cases h2 : 60 * (i + 1) ≤ B.length
    · rw [Nat.min_eq_left h2]; congr 1; omega
    · rw [Nat.min_eq_right (by omega), List.take_of_length_le (by simp), List.take_of_length_le (by simp; omega)]
  · rw [Nat.min_eq_right (by omega), Nat.min_eq_right (by omega), List.drop_eq_nil_of_le (Nat.le_refl _), List.drop_eq_nil_of_le (by omega)]
    simp
theorem partS_len (B : List UInt8) (n i : Nat) : (partS B n i).length ≤ 61 := by simp [partS]; omega
theorem wrap8_ofNat {k : Nat} (h : k < 256) : Value.int .u8 (IntKind.u8.wrap (k : Int)) = bv (UInt8.ofNat k) := by
  simp only [bv, IntKind.wrap, IntKind.bits, IntKind.signed]
  simp

def ApI (w : World) (r b : Nat) (v : Value) (B : List UInt8) (fr ln at_ : Nat) (D : DD) (F : List Nat) (m : Nat) (e : Env) (w' : World) : Prop :=
  ∃ (i : Nat) (D' : DD) (F' : List Nat), m = need B.length - i ∧ i ≤ need B.length ∧ IsD w' b D' F' ∧ Grow F w F' w' ∧ D'.pend.length ≤ D.pend.length + i ∧ D'.writes ≤ D.writes + i ∧ D'.firm.length = D.firm.length ∧
    appGo (fr + at_) B (need B.length - i) i D' = appGo (fr + at_) B (need B.length) 0 D ∧ (i = 0 ∨ True) ∧
    e 0 = pt r 0 ∧ e 1 = v ∧ e 5 = i64 (need B.length) ∧ e 31 = i64 (need B.length) ∧ e 32 = i64 i
theorem writeD_len (D : DD) (x : Int) (s : List UInt8) : (writeD D x s).firm.length = D.firm.length := by unfold writeD; split <;> rfl
theorem writeD_pend (D : DD) (x : Int) (s : List UInt8) : (writeD D x s).pend.length ≤ D.pend.length + 1 := by unfold writeD; split <;> simp
theorem writeD_writes (D : DD) (x : Int) (s : List UInt8) : (writeD D x s).writes ≤ D.writes + 1 := by
  unfold writeD; split
  · exact Int.le_refl _
  · omega
theorem app_step {w : World} {r b : Nat} {v : Value} {B : List UInt8} {fr ln at_ : Nat} {D : DD} {F : List Nat} (hro : IsRoll w r b fr ln at_) (hrF : r ∉ F) (hv : RdV w v B.length (bs B)) (hvF : 0 < B.length → ∀ k, v.ownBlock = some k → k ∉ F)
    (hB : B.length ≤ 3840) (hfit : fr + ln ≤ 4096) (hat : at_ ≤ ln) (hm : D.pend.length + 64 < 1000000) (hwr : D.writes + 64 < 4611686018427387904) {m : Nat} {e : Env} {w1 : World}
    (hI : ApI w r b v B fr ln at_ D F m e w1) {K : KT} (hN : ∀ m' e' w', m' < m → ApI w r b v B fr ln at_ D F m' e' w' → K .normal e' w')
    (hX : ∀ e' w' D' F', IsD w' b D' F' → Grow F w F' w' → appGo (fr + at_) B (need B.length) 0 D = (D', 0) → e' 0 = pt r 0 → e' 5 = i64 (need B.length) → K (.exit 1) e' w')
    (hR : ∀ e' w' D' F' x, IsD w' b D' F' → Grow F w F' w' → x ≠ 0 → appGo (fr + at_) B (need B.length) 0 D = (D', x) → e' 4 = i64 x → K .ret e' w') : F47B0 e w1 K := by
  obtain ⟨i, D', F', hmm, hi, hd, hg, hpl, hwl, hfl, hgo, _, e0, e1, e5, e31, e32⟩ := hI
  subst hmm
  unfold F47B0
  have hn64 : need B.length ≤ 64 := by unfold need; omega
  obtain ⟨n, hn⟩ : ∃ n, n = need B.length := ⟨_, rfl⟩
  have hrl := hro.lt
  have hrF' : ∀ k ∈ F', k = r → False := fun k hk hkr => by
    rcases hg.new k hk with h | h
    · exact hrF (hkr ▸ h)
    · omega
  have hvl : ∀ k, v.ownBlock = some k → 0 < B.length → k < sz w := fun k hk h0 => by
    obtain ⟨ab, ao, ac, rfl, q1, _⟩ := rd_cell hv h0
    rcases id hv with ⟨_, _, _, h1, _⟩ | ⟨b1, o1, c1, h1, _, _, h2, _⟩
    · omega
    · simp only [Value.slice.injEq, Option.some.injEq, Addr.mk.injEq] at h1
      simp only [Value.ownBlock, Option.some.injEq] at hk
      omega
  have hv1 : RdV w1 v B.length (bs B) := by
    by_cases h0 : 0 < B.length
    · exact hv.fr hg.fr (hvF h0)
    · have hB0 : B = [] := List.eq_nil_of_length_eq_zero (by omega)
      subst hB0
      obtain ⟨a, c, rfl⟩ := sl_of hv
      exact .inl ⟨_, _, rfl, rfl, rfl⟩
  obtain ⟨va, vc, hvv⟩ := sl_of hv
  have hlv : ∀ w, pBuiltin P .len #[22] 3 [v] w = some (i64 B.length, w) := fun w => by rw [hvv]; exact len22
  rw [← hn] at e5 e31 hi hgo hn64
  by_cases hlt : i < n
  · have hl1 : (i < n) = True := eq_true hlt
    have hl2 : ((i : Int) < n) = True := eq_true (by omega)
    obtain ⟨lo, hlo⟩ : ∃ lo, lo = min (60 * i) B.length := ⟨_, rfl⟩
    obtain ⟨hi', hhi⟩ : ∃ hi', hi' = min (60 * (i + 1)) B.length := ⟨_, rfl⟩
    have m1 : IntKind.i64.wrap ((i : Int) * 60) = ((60 * i : Nat) : Int) := by rw [wrap64 (by omega) (by omega)]; omega
    have m2 : min ((60 * i : Nat) : Int) (B.length : Int) = (lo : Int) := by omega
    have m3 : IntKind.i64.wrap ((i : Int) + 1) = ((i + 1 : Nat) : Int) := wrap64 (by omega) (by omega)
    have m4 : IntKind.i64.wrap (((i + 1 : Nat) : Int) * 60) = ((60 * (i + 1) : Nat) : Int) := by rw [wrap64 (by omega) (by omega)]; omega
    have m5 : min ((60 * (i + 1) : Nat) : Int) (B.length : Int) = (hi' : Int) := by omega
    have m6 : IntKind.i64.wrap ((n : Int) - 1) = ((n - 1 : Nat) : Int) := by rw [wrap64 (by omega) (by omega)]; omega
    have m7 : IntKind.i64.wrap (((n - 1 : Nat) : Int) - i) = ((n - 1 - i : Nat) : Int) := by rw [wrap64 (by omega) (by omega)]; omega
    obtain ⟨S, hS, hSr, _⟩ := sl_mid (t := 22) (lo := lo) (hi := hi') sliceE22 hv1 (by omega) (by omega)
    have hcut := part_cut B i
    rw [← hlo, ← hhi] at hcut
    rw [hcut] at hSr
    obtain ⟨c8, hc8⟩ : ∃ c8 : UInt8, c8 = UInt8.ofNat (n - 1 - i) := ⟨_, rfl⟩
    have hcv : ∀ w, pConv P 3 5 (Value.int .i64 ((n - 1 - i : Nat) : Int)) w = some (bv c8, w) := fun w => by
      rw [cv5 (by simp), wrap8_ofNat (by omega), hc8]
    obtain ⟨g1, hg1⟩ : ∃ q : Nat, q = 60 * i := ⟨_, rfl⟩
    obtain ⟨g2, hg2⟩ : ∃ q : Nat, q = i + 1 := ⟨_, rfl⟩
    obtain ⟨g3, hg3⟩ : ∃ q : Nat, q = 60 * (i + 1) := ⟨_, rfl⟩
    obtain ⟨g4, hg4⟩ : ∃ q : Nat, q = n - 1 := ⟨_, rfl⟩
    obtain ⟨g5, hg5⟩ : ∃ q : Nat, q = n - 1 - i := ⟨_, rfl⟩
    rw [← hg1] at m1 m2
    rw [← hg2] at m3 m4
    rw [show 60 * g2 = g3 by omega] at m4
    rw [← hg3] at m5
    rw [← hg4] at m6 m7
    rw [show g4 - i = g5 by omega] at m7
    rw [← hg5] at hcv
    have hb1 : ∀ w, pBuildSlice P 22 1 [(0, bv c8)] w = some (sl (sz w) 0 1 1, nw w (bs [c8]) 5) := fun w => by rw [bsl22 (by omega) (by simp)]; rfl
    have hown0 : (nw w1 (bs [c8]) 5).ownsRow (sz w1) 5 1 (sl (sz w1) 0 1 1) 1 (bs [c8]) := own_nw (Nat.le_refl _) rfl (by unfold maxLen; omega)
    have f1 : Fr [] w1 (nw w1 (bs [c8]) 5) := (Fr.refl [] w1).nw _ _
    have hpl2 : ((B.drop (60 * i)).take 60).length ≤ 60 := by simp; omega
    obtain ⟨v2, w2, hrun, hown2, hgr2, hv2⟩ := append_own2 (P := P) (t := 22) (ty := 22) (sz w1) sliceE22 hasZero5 cellsOf5 (by rw [zeroL5]; rfl) (by omega) hown0 (by have := f1.size; omega) (hSr.fr0 f1) (by simp) bs_one
      (by unfold maxLen; omega) (by rw [bytesOf5]; omega)
    have f2 : Fr [] w1 w2 := f1.trans (Fr.of_grown hgr2) (fun k hk => .inr (own_lt hown0 k (by simpa using hk)).1)
    have hpart : [c8] ++ (B.drop (60 * i)).take 60 = partS B n i := by rw [hc8]; rfl
    have hrd2 : RdV w2 v2 (partS B n i).length (bs (partS B n i)) := by
      have := own_rd hown2
      rw [← bs_append, show 1 + ((B.drop (60 * i)).take 60).length = ([c8] ++ (B.drop (60 * i)).take 60).length by simp; omega, hpart] at this
      exact this
    try simp (maxDischargeDepth := 8) [↓bindV_some, ↓bindU_some, ↓condE_true, ↓condE_false, ↓pickE_true, ↓pickE_false, ↓pickE_or, ↓pickE_and, ↓grdE_true, ↓grdE_false, ↓grdE_tf, ↓grdE_ft, ↓grdE_undef, ↓nilE_pt, ↓thenK_normal, ↓thenK_exit, ↓thenK_ret, ↓thenK_goto, ↓thenK_panic, ↓blockK_exit, ↓blockK_normal, ↓blockK_ret, ↓blockK_goto, ↓blockK_panic, ↓loopK_normal, ↓loopK_exit, ↓loopK_ret, ↓loopK_goto, ↓loopK_panic, ↓topK_ret, ↓topK_normal, ↓topK_panic, ↓resVs_nil, ↓resVs_tmp, ↓resVs_cell, tup_one, tup_nil, tup_two, put_get, argE_get, ↓takeE_def, ↓heldE_nil, ↓heldE_cons, qNil_pt, qPick_bool, qGrd_bool, qGrd_undef, ↓letK_def, pBox_eq, pBin_add, pBin_sub, pBin_mul, pBin_eql, pBin_neq, pBin_lss, pBin_leq, pBin_gtr, pBin_geq, pUn_not, pUn_neg, eqB, neB, eqS, neS, pExtract0, pExtract1, pExtract2, max_int, min_int, sz_nw, sz_wr, sz_drew, mm_nw, fz_nw, mm_drew, fz_drew, fz_wr, sz_mkS, mm_mkS, fz_mkS, Fr.mkS, mm_wr_same, mm_wr_ne, wr_wr, bs_oneT, splice_full, gt_zero, gt_succ, gt_set, gt_bs, byte_eq0, byte_eq1, byte_n0, byte_n1, Fr.refl, Fr.nw, Fr.wr, Fr.drew, e0, e1, e5, e31, e32, hl1, hl2, hlv, m1, m2, m3, m4, m5, m6, m7, hS, hcv, hb1, hrun, -bsl22, -cv5]
    refine (seal_spec hrd2).call ?_
    rintro _ w3 ⟨rfl, f3⟩
    have hp61 := partS_len B n i
    rw [if_pos hp61, if_pos hp61]
    have hs64 := sealOf_length hp61
    obtain ⟨s, hss⟩ : ∃ s, s = sealOf (partS B n i) := ⟨_, rfl⟩
    rw [← hss] at hs64 ⊢
    have hst : pStore P 25 (pt (sz w3) 0) (sec s) (nw w3 (bs (zb 64)) 25) = some (wr (nw w3 (bs (zb 64)) 25) (sz w3) (bs s)) := by
      try simp (maxDischargeDepth := 8) [↓bindV_some, ↓bindU_some, ↓condE_true, ↓condE_false, ↓pickE_true, ↓pickE_false, ↓pickE_or, ↓pickE_and, ↓grdE_true, ↓grdE_false, ↓grdE_tf, ↓grdE_ft, ↓grdE_undef, ↓nilE_pt, ↓thenK_normal, ↓thenK_exit, ↓thenK_ret, ↓thenK_goto, ↓thenK_panic, ↓blockK_exit, ↓blockK_normal, ↓blockK_ret, ↓blockK_goto, ↓blockK_panic, ↓loopK_normal, ↓loopK_exit, ↓loopK_ret, ↓loopK_goto, ↓loopK_panic, ↓topK_ret, ↓topK_normal, ↓topK_panic, ↓resVs_nil, ↓resVs_tmp, ↓resVs_cell, tup_one, tup_nil, tup_two, put_get, argE_get, ↓takeE_def, ↓heldE_nil, ↓heldE_cons, qNil_pt, qPick_bool, qGrd_bool, qGrd_undef, ↓letK_def, pBox_eq, pBin_add, pBin_sub, pBin_mul, pBin_eql, pBin_neq, pBin_lss, pBin_leq, pBin_gtr, pBin_geq, pUn_not, pUn_neg, eqB, neB, eqS, neS, pExtract0, pExtract1, pExtract2, max_int, min_int, sz_nw, sz_wr, sz_drew, mm_nw, fz_nw, mm_drew, fz_drew, fz_wr, sz_mkS, mm_mkS, fz_mkS, Fr.mkS, mm_wr_same, mm_wr_ne, wr_wr, bs_oneT, splice_full, gt_zero, gt_succ, gt_set, gt_bs, byte_eq0, byte_eq1, byte_n0, byte_n1, Fr.refl, Fr.nw, Fr.wr, Fr.drew, hs64]
    obtain ⟨Y, hY⟩ : ∃ Y, Y = drew (wr (nw w3 (bs (zb 64)) 25) (sz w3) (bs s)) := ⟨_, rfl⟩
    have fY : Fr [] w3 Y := by rw [hY]; exact (((Fr.refl [] w3).nw _ _).wr (.inr (Nat.le_refl _)) _).drew
    have hYm : mm Y (sz w3) = bs s := by rw [hY, mm_drew, mm_wr_same]; simp [sz_nw, sz_wr, sz_drew, mm_nw, fz_nw, mm_drew, fz_drew, fz_wr, sz_mkS, mm_mkS, fz_mkS, Fr.mkS, mm_wr_same, mm_wr_ne, wr_wr, bs_oneT, splice_full, gt_zero, gt_succ, gt_set, gt_bs, byte_eq0, byte_eq1, byte_n0, byte_n1, Fr.refl, Fr.nw, Fr.wr, Fr.drew]
    have hld : pLoad P 25 (pt (sz w3) 0) Y = some (sec s, Y) := by
      rw [ld25 (by rw [hYm, bs_length]; omega), hYm, List.drop_zero, List.take_of_length_le (by rw [bs_length]; omega)]
    have q3 := (f2.trans0 f3).trans0 fY
    have hroY := (hro.fr hg.fr hrF).fr q3 (by simp)
    have hm4 := hroY.1
    have hrs := hroY.lt
    obtain ⟨x0, hx0⟩ : ∃ x0, x0 = fr + at_ := ⟨_, rfl⟩
    have a1 : IntKind.i64.wrap ((fr : Int) + at_) = (x0 : Int) := by rw [wrap64 (by omega) (by omega)]; omega
    obtain ⟨x1, hx1⟩ : ∃ x1, x1 = x0 + i := ⟨_, rfl⟩
    have a2 : IntKind.i64.wrap ((x0 : Int) + i) = (x1 : Int) := by rw [wrap64 (by omega) (by omega)]; omega
    try simp (maxDischargeDepth := 8) [↓bindV_some, ↓bindU_some, ↓condE_true, ↓condE_false, ↓pickE_true, ↓pickE_false, ↓pickE_or, ↓pickE_and, ↓grdE_true, ↓grdE_false, ↓grdE_tf, ↓grdE_ft, ↓grdE_undef, ↓nilE_pt, ↓thenK_normal, ↓thenK_exit, ↓thenK_ret, ↓thenK_goto, ↓thenK_panic, ↓blockK_exit, ↓blockK_normal, ↓blockK_ret, ↓blockK_goto, ↓blockK_panic, ↓loopK_normal, ↓loopK_exit, ↓loopK_ret, ↓loopK_goto, ↓loopK_panic, ↓topK_ret, ↓topK_normal, ↓topK_panic, ↓resVs_nil, ↓resVs_tmp, ↓resVs_cell, tup_one, tup_nil, tup_two, put_get, argE_get, ↓takeE_def, ↓heldE_nil, ↓heldE_cons, qNil_pt, qPick_bool, qGrd_bool, qGrd_undef, ↓letK_def, pBox_eq, pBin_add, pBin_sub, pBin_mul, pBin_eql, pBin_neq, pBin_lss, pBin_leq, pBin_gtr, pBin_geq, pUn_not, pUn_neg, eqB, neB, eqS, neS, pExtract0, pExtract1, pExtract2, max_int, min_int, sz_nw, sz_wr, sz_drew, mm_nw, fz_nw, mm_drew, fz_drew, fz_wr, sz_mkS, mm_mkS, fz_mkS, Fr.mkS, mm_wr_same, mm_wr_ne, wr_wr, bs_oneT, splice_full, gt_zero, gt_succ, gt_set, gt_bs, byte_eq0, byte_eq1, byte_n0, byte_n1, Fr.refl, Fr.nw, Fr.wr, Fr.drew, hst, ← hY, hm4, hrs, a1, a2, hld, -st25, -ld25]
    have hwD := write_spec (x := (x1 : Int)) (s := s) (hd.fr0 q3) hs64 (by omega) (by omega)
    refine hwD.call ?_
    rintro _ w4 ⟨rfl, F2, hd2, hf4, hF2⟩
    have hg2 : Grow F w F2 w4 := (hg.calm q3).step hf4 hF2
    obtain ⟨k, hk⟩ : ∃ k, n - i = k + 1 := ⟨n - i - 1, by omega⟩
    rw [hk, appGo, ← hx0, ← hx1, ← hn, ← hss] at hgo
    by_cases hwe : writeE D' (x1 : Int) = 0
    · have hwe1 : (writeE D' (x1 : Int) = 0) = True := eq_true hwe
      rw [if_pos hwe] at hgo
      have hk2 : k = n - (i + 1) := by omega
      rw [hk2, hn] at hgo
      have m3' : IntKind.i64.wrap ((i : Int) + 1) = ((i + 1 : Nat) : Int) := wrap64 (by omega) (by omega)
      generalize writeE D' (x1 : Int) = we at *
      try simp (maxDischargeDepth := 8) [↓bindV_some, ↓bindU_some, ↓condE_true, ↓condE_false, ↓pickE_true, ↓pickE_false, ↓pickE_or, ↓pickE_and, ↓grdE_true, ↓grdE_false, ↓grdE_tf, ↓grdE_ft, ↓grdE_undef, ↓nilE_pt, ↓thenK_normal, ↓thenK_exit, ↓thenK_ret, ↓thenK_goto, ↓thenK_panic, ↓blockK_exit, ↓blockK_normal, ↓blockK_ret, ↓blockK_goto, ↓blockK_panic, ↓loopK_normal, ↓loopK_exit, ↓loopK_ret, ↓loopK_goto, ↓loopK_panic, ↓topK_ret, ↓topK_normal, ↓topK_panic, ↓resVs_nil, ↓resVs_tmp, ↓resVs_cell, tup_one, tup_nil, tup_two, put_get, argE_get, ↓takeE_def, ↓heldE_nil, ↓heldE_cons, qNil_pt, qPick_bool, qGrd_bool, qGrd_undef, ↓letK_def, pBox_eq, pBin_add, pBin_sub, pBin_mul, pBin_eql, pBin_neq, pBin_lss, pBin_leq, pBin_gtr, pBin_geq, pUn_not, pUn_neg, eqB, neB, eqS, neS, pExtract0, pExtract1, pExtract2, max_int, min_int, sz_nw, sz_wr, sz_drew, mm_nw, fz_nw, mm_drew, fz_drew, fz_wr, sz_mkS, mm_mkS, fz_mkS, Fr.mkS, mm_wr_same, mm_wr_ne, wr_wr, bs_oneT, splice_full, gt_zero, gt_succ, gt_set, gt_bs, byte_eq0, byte_eq1, byte_n0, byte_n1, Fr.refl, Fr.nw, Fr.wr, Fr.drew, hwe1, e32, m3', -Int.natCast_add]
      refine hN (need B.length - (i + 1)) _ _ (by omega) ⟨i + 1, _, F2, rfl, by omega, hd2, hg2, ?_, ?_, ?_, by rw [← hx0]; exact hgo, .inr trivial, by simp [put_get, e0], by simp [put_get, e1], by simp [put_get, e5, hn], by simp [put_get, e31, hn], by simp [put_get]⟩
      · have := writeD_pend D' (x1 : Int) s; omega
      · have := writeD_writes D' (x1 : Int) s; omega
      · rw [writeD_len]; exact hfl
    · have hwe1 : (writeE D' (x1 : Int) = 0) = False := eq_false hwe
      rw [if_neg hwe] at hgo
      obtain ⟨we, hwe2⟩ : ∃ we, we = writeE D' (x1 : Int) := ⟨_, rfl⟩
      rw [← hwe2] at hwe hwe1 hgo ⊢
      try simp (maxDischargeDepth := 8) [↓bindV_some, ↓bindU_some, ↓condE_true, ↓condE_false, ↓pickE_true, ↓pickE_false, ↓pickE_or, ↓pickE_and, ↓grdE_true, ↓grdE_false, ↓grdE_tf, ↓grdE_ft, ↓grdE_undef, ↓nilE_pt, ↓thenK_normal, ↓thenK_exit, ↓thenK_ret, ↓thenK_goto, ↓thenK_panic, ↓blockK_exit, ↓blockK_normal, ↓blockK_ret, ↓blockK_goto, ↓blockK_panic, ↓loopK_normal, ↓loopK_exit, ↓loopK_ret, ↓loopK_goto, ↓loopK_panic, ↓topK_ret, ↓topK_normal, ↓topK_panic, ↓resVs_nil, ↓resVs_tmp, ↓resVs_cell, tup_one, tup_nil, tup_two, put_get, argE_get, ↓takeE_def, ↓heldE_nil, ↓heldE_cons, qNil_pt, qPick_bool, qGrd_bool, qGrd_undef, ↓letK_def, pBox_eq, pBin_add, pBin_sub, pBin_mul, pBin_eql, pBin_neq, pBin_lss, pBin_leq, pBin_gtr, pBin_geq, pUn_not, pUn_neg, eqB, neB, eqS, neS, pExtract0, pExtract1, pExtract2, max_int, min_int, sz_nw, sz_wr, sz_drew, mm_nw, fz_nw, mm_drew, fz_drew, fz_wr, sz_mkS, mm_mkS, fz_mkS, Fr.mkS, mm_wr_same, mm_wr_ne, wr_wr, bs_oneT, splice_full, gt_zero, gt_succ, gt_set, gt_bs, byte_eq0, byte_eq1, byte_n0, byte_n1, Fr.refl, Fr.nw, Fr.wr, Fr.drew, hwe1]
      exact hR _ _ _ F2 we hd2 hg2 hwe (by rw [← hx0, ← hn]; exact hgo.symm) (by simp [put_get])
  · have hie : i = n := by omega
    subst hie
    have hl1 : (i < i) = False := eq_false (by omega)
    have hl2 : ((i : Int) < i) = False := eq_false (by omega)
    rw [Nat.sub_self, appGo] at hgo
    try simp (maxDischargeDepth := 8) [↓bindV_some, ↓bindU_some, ↓condE_true, ↓condE_false, ↓pickE_true, ↓pickE_false, ↓pickE_or, ↓pickE_and, ↓grdE_true, ↓grdE_false, ↓grdE_tf, ↓grdE_ft, ↓grdE_undef, ↓nilE_pt, ↓thenK_normal, ↓thenK_exit, ↓thenK_ret, ↓thenK_goto, ↓thenK_panic, ↓blockK_exit, ↓blockK_normal, ↓blockK_ret, ↓blockK_goto, ↓blockK_panic, ↓loopK_normal, ↓loopK_exit, ↓loopK_ret, ↓loopK_goto, ↓loopK_panic, ↓topK_ret, ↓topK_normal, ↓topK_panic, ↓resVs_nil, ↓resVs_tmp, ↓resVs_cell, tup_one, tup_nil, tup_two, put_get, argE_get, ↓takeE_def, ↓heldE_nil, ↓heldE_cons, qNil_pt, qPick_bool, qGrd_bool, qGrd_undef, ↓letK_def, pBox_eq, pBin_add, pBin_sub, pBin_mul, pBin_eql, pBin_neq, pBin_lss, pBin_leq, pBin_gtr, pBin_geq, pUn_not, pUn_neg, eqB, neB, eqS, neS, pExtract0, pExtract1, pExtract2, max_int, min_int, sz_nw, sz_wr, sz_drew, mm_nw, fz_nw, mm_drew, fz_drew, fz_wr, sz_mkS, mm_mkS, fz_mkS, Fr.mkS, mm_wr_same, mm_wr_ne, wr_wr, bs_oneT, splice_full, gt_zero, gt_succ, gt_set, gt_bs, byte_eq0, byte_eq1, byte_n0, byte_n1, Fr.refl, Fr.nw, Fr.wr, Fr.drew, e31, e32, hl1, hl2]
    exact hX _ _ D' F' hd hg (by rw [← hn]; exact hgo.symm) (by simp [put_get, e0]) (by simp [put_get, e5, hn])
end Go.Proofs.Yticncfkpfpkfoaa
