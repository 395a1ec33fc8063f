/- RollScans: all sectors are looked at. -/
import Derived.Test.YticncfkpfpkfoaaRScans0
set_option linter.unusedVariables false
set_option linter.unusedSimpArgs false
namespace Go.Proofs.Yticncfkpfpkfoaa
open Go

def LkI (w0 : World) (v : Value) (n b bx at_ : Nat) (m : Nat) (e : Env) (w' : World) : Prop :=
  ∃ j : Nat, m = n - j ∧ j ≤ n ∧ Fr [] w0 w' ∧ e 3 = pt bx 0 ∧ e 5 = pt b 0 ∧ e 16 = i64 at_ ∧ e 166 = v ∧ e 167 = i64 n ∧ e 168 = i64 j
theorem look_loop {w0 : World} {v : Value} {S : List (List UInt8)} {b bx at_ fr ln : Nat} {D : DD} {F : List Nat} (h : RdV w0 v S.length (flat bs S)) (hS : ∀ s ∈ S, s.length = 64) (hl : S.length ≤ 60) (hd : IsD w0 b D F) (hc : CalmN S.length D)
    (hfit : fr + ln ≤ S.length) (hat : at_ ≤ ln) (hbx : mm w0 bx = [i64 fr, i64 ln]) (hbxl : bx < sz w0) (hv : ∀ i, i < S.length → view D i = if fr + at_ ≤ i ∧ i < fr + ln then zb 64 else S.getD i [])
    {m : Nat} {e : Env} {w1 : World} (hI : LkI w0 v S.length b bx at_ m e w1) {K : KT} (hN : ∀ m' e' w', m' < m → LkI w0 v S.length b bx at_ m' e' w' → K .normal e' w') (hX : ∀ e' w', LkI w0 v S.length b bx at_ 0 e' w' → K (.exit 2) e' w') : F13B1 e w1 K := by
  obtain ⟨j, hm, hj, hf, e3, e5, e16, e166, e167, e168⟩ := hI
  subst hm
  unfold F13B1
  by_cases hjl : j < S.length
  · have t1 : (j < S.length) = True := eq_true hjl
    have t2 : ((j : Int) < S.length) = True := eq_true (by omega)
    obtain ⟨s, hs⟩ : ∃ s, S[j]? = some s := ⟨_, List.getElem?_eq_getElem hjl⟩
    have hs64 := hS s (List.mem_of_getElem? hs)
    have hvj := hv j hjl
    rw [List.getD_eq_getElem?_getD, hs] at hvj
    simp only [Option.getD_some] at hvj
    obtain ⟨sb, so, sc, hsv2, hsb, hin, htk⟩ := flat_at (n := 64) (h.fr0 hf) (fun p hp => by rw [bs_length]; exact hS p hp) (by omega) hs
    have hia : ∀ w', pIndexAddr P 76 v (i64 j) w' = some (pt sb (so + j * 64), w') := fun w' => by
      rw [hsv2]
      have := ia76 (w := w') (b := sb) (o := so) (n := S.length) (c := sc) (k := .i64) (j := (j : Int)) (by omega) (by omega)
      rw [this]; simp
    have hld0 : pLoad P 25 (pt sb (so + j * 64)) w1 = some (sec s, w1) := by rw [ld25 hin, htk]
    have hst : ∀ (w : World) (q : List UInt8), q.length = 64 → pStore P 25 (pt (sz w) 0) (sec q) (nw w (bs (zb 64)) 25) = some (wr (nw w (bs (zb 64)) 25) (sz w) (bs q)) := fun w q hq => by
      try simp (maxDischargeDepth := 8) [↓bindV_some, ↓bindU_some, ↓condE_true, ↓condE_false, ↓pickE_true, ↓pickE_false, ↓pickE_or, ↓pickE_and, ↓grdE_true, ↓grdE_false, ↓grdE_tf, ↓grdE_ft, ↓grdE_undef, ↓nilE_pt, ↓thenK_normal, ↓thenK_exit, ↓thenK_ret, ↓thenK_goto, ↓thenK_panic, ↓blockK_exit, ↓blockK_normal, ↓blockK_ret, ↓blockK_goto, ↓blockK_panic, ↓loopK_normal, ↓loopK_exit, ↓loopK_ret, ↓loopK_goto, ↓loopK_panic, ↓topK_ret, ↓topK_normal, ↓topK_panic, ↓resVs_nil, ↓resVs_tmp, ↓resVs_cell, tup_one, tup_nil, tup_two, put_get, argE_get, ↓takeE_def, ↓heldE_nil, ↓heldE_cons, qNil_pt, qPick_bool, qGrd_bool, qGrd_undef, ↓letK_def, pBox_eq, pBin_add, pBin_sub, pBin_mul, pBin_eql, pBin_neq, pBin_lss, pBin_leq, pBin_gtr, pBin_geq, pUn_not, pUn_neg, eqB, neB, eqS, neS, pExtract0, pExtract1, pExtract2, max_int, min_int, sz_nw, sz_wr, sz_drew, mm_nw, fz_nw, mm_drew, fz_drew, fz_wr, sz_mkS, mm_mkS, fz_mkS, Fr.mkS, mm_wr_same, mm_wr_ne, wr_wr, bs_oneT, splice_full, gt_zero, gt_succ, gt_set, gt_bs, byte_eq0, byte_eq1, byte_n0, byte_n1, Fr.refl, Fr.nw, Fr.wr, Fr.drew, hq]
    obtain ⟨X, hX1⟩ : ∃ X, X = wr (nw w1 (bs (zb 64)) 25) (sz w1) (bs s) := ⟨_, rfl⟩
    have hst1 := hst w1 s hs64
    rw [← hX1] at hst1
    have fX : Fr [] w1 X := by rw [hX1]; exact ((Fr.refl [] w1).nw _ _).wr (.inr (Nat.le_refl _)) _
    have hXm : mm X (sz w1) = bs s := by rw [hX1, mm_wr_same]; simp [sz_nw, sz_wr, sz_drew, mm_nw, fz_nw, mm_drew, fz_drew, fz_wr, sz_mkS, mm_mkS, fz_mkS, Fr.mkS, mm_wr_same, mm_wr_ne, wr_wr, bs_oneT, splice_full, gt_zero, gt_succ, gt_set, gt_bs, byte_eq0, byte_eq1, byte_n0, byte_n1, Fr.refl, Fr.nw, Fr.wr, Fr.drew]
    have hXz : fz X (sz w1) = false := by rw [hX1]; simp [sz_nw, sz_wr, sz_drew, mm_nw, fz_nw, mm_drew, fz_drew, fz_wr, sz_mkS, mm_mkS, fz_mkS, Fr.mkS, mm_wr_same, mm_wr_ne, wr_wr, bs_oneT, splice_full, gt_zero, gt_succ, gt_set, gt_bs, byte_eq0, byte_eq1, byte_n0, byte_n1, Fr.refl, Fr.nw, Fr.wr, Fr.drew]
    have hXs := lt_of_fz hXz
    have hXb : mm X bx = [i64 fr, i64 ln] := by rw [(hf.trans0 fX).mm hbxl (by simp), hbx]
    have hXl : bx < sz X := (hf.trans0 fX).lt hbxl
    obtain ⟨x0, hx0⟩ : ∃ x0 : Nat, x0 = fr + at_ := ⟨_, rfl⟩
    obtain ⟨x1, hx1⟩ : ∃ x1 : Nat, x1 = fr + ln := ⟨_, rfl⟩
    have a1 : IntKind.i64.wrap ((fr : Int) + at_) = (x0 : Int) := by rw [wrap64 (by omega) (by omega)]; omega
    have a2 : IntKind.i64.wrap ((fr : Int) + ln) = (x1 : Int) := by rw [wrap64 (by omega) (by omega)]; omega
    have hwj : IntKind.i64.wrap ((j : Int) + 1) = ((j + 1 : Nat) : Int) := wrap64 (by omega) (by omega)
    rw [← hx0, ← hx1] at hvj
    obtain ⟨y, hy⟩ : ∃ y, y = view D j := ⟨_, rfl⟩
    rw [← hy] at hvj
    have hy64 : y.length = 64 := by rw [hvj]; split <;> simp [hs64]
    have hok : okE D (j : Int) = 0 := hc.ok (x := j) hjl
    have hrd : readD D (j : Int) = y := by rw [hy]; rfl
    have hne : ∀ w, pBin P .neq 25 false (sec y) (sec y) w = some (.bool false, w) := fun w => by rw [nes25 hy64 hy64]; simp
    have b25 : ∀ w, pBuild P 25 [] w = some (sec (zb 64), w) := fun w => by rw [bd25 (by simp)]; rfl
    by_cases c1 : x0 ≤ j
    · have c1a : (x0 ≤ j) = True := eq_true c1
      have c1b : ((x0 : Int) ≤ j) = True := eq_true (by omega)
      by_cases c2 : j < x1
      · have c2a : (j < x1) = True := eq_true c2
        have c2b : ((j : Int) < x1) = True := eq_true (by omega)
        rw [if_pos ⟨c1, c2⟩] at hvj
        have hstz : pStore P 25 (pt (sz w1) 0) (sec (zb 64)) X = some (wr X (sz w1) (bs (zb 64))) := by
          try simp (maxDischargeDepth := 8) [↓bindV_some, ↓bindU_some, ↓condE_true, ↓condE_false, ↓pickE_true, ↓pickE_false, ↓pickE_or, ↓pickE_and, ↓grdE_true, ↓grdE_false, ↓grdE_tf, ↓grdE_ft, ↓grdE_undef, ↓nilE_pt, ↓thenK_normal, ↓thenK_exit, ↓thenK_ret, ↓thenK_goto, ↓thenK_panic, ↓blockK_exit, ↓blockK_normal, ↓blockK_ret, ↓blockK_goto, ↓blockK_panic, ↓loopK_normal, ↓loopK_exit, ↓loopK_ret, ↓loopK_goto, ↓loopK_panic, ↓topK_ret, ↓topK_normal, ↓topK_panic, ↓resVs_nil, ↓resVs_tmp, ↓resVs_cell, tup_one, tup_nil, tup_two, put_get, argE_get, ↓takeE_def, ↓heldE_nil, ↓heldE_cons, qNil_pt, qPick_bool, qGrd_bool, qGrd_undef, ↓letK_def, pBox_eq, pBin_add, pBin_sub, pBin_mul, pBin_eql, pBin_neq, pBin_lss, pBin_leq, pBin_gtr, pBin_geq, pUn_not, pUn_neg, eqB, neB, eqS, neS, pExtract0, pExtract1, pExtract2, max_int, min_int, sz_nw, sz_wr, sz_drew, mm_nw, fz_nw, mm_drew, fz_drew, fz_wr, sz_mkS, mm_mkS, fz_mkS, Fr.mkS, mm_wr_same, mm_wr_ne, wr_wr, bs_oneT, splice_full, gt_zero, gt_succ, gt_set, gt_bs, byte_eq0, byte_eq1, byte_n0, byte_n1, Fr.refl, Fr.nw, Fr.wr, Fr.drew, hXm, hXz, hs64]
        obtain ⟨Y, hY⟩ : ∃ Y, Y = wr X (sz w1) (bs (zb 64)) := ⟨_, rfl⟩
        rw [← hY] at hstz
        have fY : Fr [] w1 Y := by rw [hY]; exact fX.wr (.inr (Nat.le_refl _)) _
        have hYm : mm Y (sz w1) = bs y := by rw [hY, mm_wr_same hXz, hvj]
        have hYs : sz w1 < sz Y := by rw [hY, sz_wr]; exact hXs
        try simp (maxDischargeDepth := 8) [↓bindV_some, ↓bindU_some, ↓condE_true, ↓condE_false, ↓pickE_true, ↓pickE_false, ↓pickE_or, ↓pickE_and, ↓grdE_true, ↓grdE_false, ↓grdE_tf, ↓grdE_ft, ↓grdE_undef, ↓nilE_pt, ↓thenK_normal, ↓thenK_exit, ↓thenK_ret, ↓thenK_goto, ↓thenK_panic, ↓blockK_exit, ↓blockK_normal, ↓blockK_ret, ↓blockK_goto, ↓blockK_panic, ↓loopK_normal, ↓loopK_exit, ↓loopK_ret, ↓loopK_goto, ↓loopK_panic, ↓topK_ret, ↓topK_normal, ↓topK_panic, ↓resVs_nil, ↓resVs_tmp, ↓resVs_cell, tup_one, tup_nil, tup_two, put_get, argE_get, ↓takeE_def, ↓heldE_nil, ↓heldE_cons, qNil_pt, qPick_bool, qGrd_bool, qGrd_undef, ↓letK_def, pBox_eq, pBin_add, pBin_sub, pBin_mul, pBin_eql, pBin_neq, pBin_lss, pBin_leq, pBin_gtr, pBin_geq, pUn_not, pUn_neg, eqB, neB, eqS, neS, pExtract0, pExtract1, pExtract2, max_int, min_int, sz_nw, sz_wr, sz_drew, mm_nw, fz_nw, mm_drew, fz_drew, fz_wr, sz_mkS, mm_mkS, fz_mkS, Fr.mkS, mm_wr_same, mm_wr_ne, wr_wr, bs_oneT, splice_full, gt_zero, gt_succ, gt_set, gt_bs, byte_eq0, byte_eq1, byte_n0, byte_n1, Fr.refl, Fr.nw, Fr.wr, Fr.drew, letK_def, e3, e5, e16, e166, e167, e168, t1, t2, hia, hld0, hst1, hXb, hXl, a1, a2, c1a, c1b, c2a, c2b, b25, hstz, -ld25, -st25, -bd25]
        have hrs := read_spec (x := (j : Int)) (hd.fr0 (hf.trans0 fY)) (by omega) (by omega)
        refine hrs.call ?_
        rintro _ w2 ⟨rfl, f2⟩
        rw [hok, if_pos rfl, hrd]
        have hst2 := hst w2 y hy64
        obtain ⟨Z, hZ⟩ : ∃ Z, Z = wr (nw w2 (bs (zb 64)) 25) (sz w2) (bs y) := ⟨_, rfl⟩
        rw [← hZ] at hst2
        have fZ : Fr [] w2 Z := by rw [hZ]; exact ((Fr.refl [] w2).nw _ _).wr (.inr (Nat.le_refl _)) _
        have hZm : mm Z (sz w2) = bs y := by rw [hZ, mm_wr_same]; simp [sz_nw, sz_wr, sz_drew, mm_nw, fz_nw, mm_drew, fz_drew, fz_wr, sz_mkS, mm_mkS, fz_mkS, Fr.mkS, mm_wr_same, mm_wr_ne, wr_wr, bs_oneT, splice_full, gt_zero, gt_succ, gt_set, gt_bs, byte_eq0, byte_eq1, byte_n0, byte_n1, Fr.refl, Fr.nw, Fr.wr, Fr.drew]
        have hZ1 : mm Z (sz w1) = bs y := by rw [fZ.mm (f2.lt hYs) (by simp), f2.mm hYs (by simp), hYm]
        have hl1 : pLoad P 25 (pt (sz w2) 0) Z = some (sec y, Z) := by
          rw [ld25 (by rw [hZm, bs_length]; omega), hZm, List.drop_zero, List.take_of_length_le (by rw [bs_length]; omega)]
        have hl2 : pLoad P 25 (pt (sz w1) 0) Z = some (sec y, Z) := by
          rw [ld25 (by rw [hZ1, bs_length]; omega), hZ1, List.drop_zero, List.take_of_length_le (by rw [bs_length]; omega)]
        try simp (maxDischargeDepth := 8) [↓bindV_some, ↓bindU_some, ↓condE_true, ↓condE_false, ↓pickE_true, ↓pickE_false, ↓pickE_or, ↓pickE_and, ↓grdE_true, ↓grdE_false, ↓grdE_tf, ↓grdE_ft, ↓grdE_undef, ↓nilE_pt, ↓thenK_normal, ↓thenK_exit, ↓thenK_ret, ↓thenK_goto, ↓thenK_panic, ↓blockK_exit, ↓blockK_normal, ↓blockK_ret, ↓blockK_goto, ↓blockK_panic, ↓loopK_normal, ↓loopK_exit, ↓loopK_ret, ↓loopK_goto, ↓loopK_panic, ↓topK_ret, ↓topK_normal, ↓topK_panic, ↓resVs_nil, ↓resVs_tmp, ↓resVs_cell, tup_one, tup_nil, tup_two, put_get, argE_get, ↓takeE_def, ↓heldE_nil, ↓heldE_cons, qNil_pt, qPick_bool, qGrd_bool, qGrd_undef, ↓letK_def, pBox_eq, pBin_add, pBin_sub, pBin_mul, pBin_eql, pBin_neq, pBin_lss, pBin_leq, pBin_gtr, pBin_geq, pUn_not, pUn_neg, eqB, neB, eqS, neS, pExtract0, pExtract1, pExtract2, max_int, min_int, sz_nw, sz_wr, sz_drew, mm_nw, fz_nw, mm_drew, fz_drew, fz_wr, sz_mkS, mm_mkS, fz_mkS, Fr.mkS, mm_wr_same, mm_wr_ne, wr_wr, bs_oneT, splice_full, gt_zero, gt_succ, gt_set, gt_bs, byte_eq0, byte_eq1, byte_n0, byte_n1, Fr.refl, Fr.nw, Fr.wr, Fr.drew, hst2, hl1, hl2, hne, e168, hwj, -ld25, -st25, -nes25, -Int.natCast_add]
        exact hN (S.length - (j + 1)) _ _ (by omega) ⟨j + 1, rfl, by omega, (((hf.trans0 fY).trans0 f2).trans0 fZ), by simp [put_get, e3], by simp [put_get, e5], by simp [put_get, e16], by simp [put_get, e166], by simp [put_get, e167], by simp [put_get]⟩
      · have c2a : (j < x1) = False := eq_false c2
        have c2b : ((j : Int) < x1) = False := eq_false (by omega)
        rw [if_neg (fun hh => c2 hh.2)] at hvj
        try simp (maxDischargeDepth := 8) [↓bindV_some, ↓bindU_some, ↓condE_true, ↓condE_false, ↓pickE_true, ↓pickE_false, ↓pickE_or, ↓pickE_and, ↓grdE_true, ↓grdE_false, ↓grdE_tf, ↓grdE_ft, ↓grdE_undef, ↓nilE_pt, ↓thenK_normal, ↓thenK_exit, ↓thenK_ret, ↓thenK_goto, ↓thenK_panic, ↓blockK_exit, ↓blockK_normal, ↓blockK_ret, ↓blockK_goto, ↓blockK_panic, ↓loopK_normal, ↓loopK_exit, ↓loopK_ret, ↓loopK_goto, ↓loopK_panic, ↓topK_ret, ↓topK_normal, ↓topK_panic, ↓resVs_nil, ↓resVs_tmp, ↓resVs_cell, tup_one, tup_nil, tup_two, put_get, argE_get, ↓takeE_def, ↓heldE_nil, ↓heldE_cons, qNil_pt, qPick_bool, qGrd_bool, qGrd_undef, ↓letK_def, pBox_eq, pBin_add, pBin_sub, pBin_mul, pBin_eql, pBin_neq, pBin_lss, pBin_leq, pBin_gtr, pBin_geq, pUn_not, pUn_neg, eqB, neB, eqS, neS, pExtract0, pExtract1, pExtract2, max_int, min_int, sz_nw, sz_wr, sz_drew, mm_nw, fz_nw, mm_drew, fz_drew, fz_wr, sz_mkS, mm_mkS, fz_mkS, Fr.mkS, mm_wr_same, mm_wr_ne, wr_wr, bs_oneT, splice_full, gt_zero, gt_succ, gt_set, gt_bs, byte_eq0, byte_eq1, byte_n0, byte_n1, Fr.refl, Fr.nw, Fr.wr, Fr.drew, letK_def, e3, e5, e16, e166, e167, e168, t1, t2, hia, hld0, hst1, hXb, hXl, a1, a2, c1a, c1b, c2a, c2b, -ld25, -st25]
        have hrs := read_spec (x := (j : Int)) (hd.fr0 (hf.trans0 fX)) (by omega) (by omega)
        refine hrs.call ?_
        rintro _ w2 ⟨rfl, f2⟩
        rw [hok, if_pos rfl, hrd]
        have hst2 := hst w2 y hy64
        obtain ⟨Z, hZ⟩ : ∃ Z, Z = wr (nw w2 (bs (zb 64)) 25) (sz w2) (bs y) := ⟨_, rfl⟩
        rw [← hZ] at hst2
        have fZ : Fr [] w2 Z := by rw [hZ]; exact ((Fr.refl [] w2).nw _ _).wr (.inr (Nat.le_refl _)) _
        have hZm : mm Z (sz w2) = bs y := by rw [hZ, mm_wr_same]; simp [sz_nw, sz_wr, sz_drew, mm_nw, fz_nw, mm_drew, fz_drew, fz_wr, sz_mkS, mm_mkS, fz_mkS, Fr.mkS, mm_wr_same, mm_wr_ne, wr_wr, bs_oneT, splice_full, gt_zero, gt_succ, gt_set, gt_bs, byte_eq0, byte_eq1, byte_n0, byte_n1, Fr.refl, Fr.nw, Fr.wr, Fr.drew]
        have hZ1 : mm Z (sz w1) = bs y := by rw [fZ.mm (f2.lt hXs) (by simp), f2.mm hXs (by simp), hXm, hvj]
        have hl1 : pLoad P 25 (pt (sz w2) 0) Z = some (sec y, Z) := by
          rw [ld25 (by rw [hZm, bs_length]; omega), hZm, List.drop_zero, List.take_of_length_le (by rw [bs_length]; omega)]
        have hl2 : pLoad P 25 (pt (sz w1) 0) Z = some (sec y, Z) := by
          rw [ld25 (by rw [hZ1, bs_length]; omega), hZ1, List.drop_zero, List.take_of_length_le (by rw [bs_length]; omega)]
        try simp (maxDischargeDepth := 8) [↓bindV_some, ↓bindU_some, ↓condE_true, ↓condE_false, ↓pickE_true, ↓pickE_false, ↓pickE_or, ↓pickE_and, ↓grdE_true, ↓grdE_false, ↓grdE_tf, ↓grdE_ft, ↓grdE_undef, ↓nilE_pt, ↓thenK_normal, ↓thenK_exit, ↓thenK_ret, ↓thenK_goto, ↓thenK_panic, ↓blockK_exit, ↓blockK_normal, ↓blockK_ret, ↓blockK_goto, ↓blockK_panic, ↓loopK_normal, ↓loopK_exit, ↓loopK_ret, ↓loopK_goto, ↓loopK_panic, ↓topK_ret, ↓topK_normal, ↓topK_panic, ↓resVs_nil, ↓resVs_tmp, ↓resVs_cell, tup_one, tup_nil, tup_two, put_get, argE_get, ↓takeE_def, ↓heldE_nil, ↓heldE_cons, qNil_pt, qPick_bool, qGrd_bool, qGrd_undef, ↓letK_def, pBox_eq, pBin_add, pBin_sub, pBin_mul, pBin_eql, pBin_neq, pBin_lss, pBin_leq, pBin_gtr, pBin_geq, pUn_not, pUn_neg, eqB, neB, eqS, neS, pExtract0, pExtract1, pExtract2, max_int, min_int, sz_nw, sz_wr, sz_drew, mm_nw, fz_nw, mm_drew, fz_drew, fz_wr, sz_mkS, mm_mkS, fz_mkS, Fr.mkS, mm_wr_same, mm_wr_ne, wr_wr, bs_oneT, splice_full, gt_zero, gt_succ, gt_set, gt_bs, byte_eq0, byte_eq1, byte_n0, byte_n1, Fr.refl, Fr.nw, Fr.wr, Fr.drew, hst2, hl1, hl2, hne, e168, hwj, -ld25, -st25, -nes25, -Int.natCast_add]
        exact hN (S.length - (j + 1)) _ _ (by omega) ⟨j + 1, rfl, by omega, (((hf.trans0 fX).trans0 f2).trans0 fZ), by simp [put_get, e3], by simp [put_get, e5], by simp [put_get, e16], by simp [put_get, e166], by simp [put_get, e167], by simp [put_get]⟩
    · have c1a : (x0 ≤ j) = False := eq_false c1
      have c1b : ((x0 : Int) ≤ j) = False := eq_false (by omega)
      rw [if_neg (fun hh => c1 hh.1)] at hvj
      try simp (maxDischargeDepth := 8) [↓bindV_some, ↓bindU_some, ↓condE_true, ↓condE_false, ↓pickE_true, ↓pickE_false, ↓pickE_or, ↓pickE_and, ↓grdE_true, ↓grdE_false, ↓grdE_tf, ↓grdE_ft, ↓grdE_undef, ↓nilE_pt, ↓thenK_normal, ↓thenK_exit, ↓thenK_ret, ↓thenK_goto, ↓thenK_panic, ↓blockK_exit, ↓blockK_normal, ↓blockK_ret, ↓blockK_goto, ↓blockK_panic, ↓loopK_normal, ↓loopK_exit, ↓loopK_ret, ↓loopK_goto, ↓loopK_panic, ↓topK_ret, ↓topK_normal, ↓topK_panic, ↓resVs_nil, ↓resVs_tmp, ↓resVs_cell, tup_one, tup_nil, tup_two, put_get, argE_get, ↓takeE_def, ↓heldE_nil, ↓heldE_cons, qNil_pt, qPick_bool, qGrd_bool, qGrd_undef, ↓letK_def, pBox_eq, pBin_add, pBin_sub, pBin_mul, pBin_eql, pBin_neq, pBin_lss, pBin_leq, pBin_gtr, pBin_geq, pUn_not, pUn_neg, eqB, neB, eqS, neS, pExtract0, pExtract1, pExtract2, max_int, min_int, sz_nw, sz_wr, sz_drew, mm_nw, fz_nw, mm_drew, fz_drew, fz_wr, sz_mkS, mm_mkS, fz_mkS, Fr.mkS, mm_wr_same, mm_wr_ne, wr_wr, bs_oneT, splice_full, gt_zero, gt_succ, gt_set, gt_bs, byte_eq0, byte_eq1, byte_n0, byte_n1, Fr.refl, Fr.nw, Fr.wr, Fr.drew, letK_def, e3, e5, e16, e166, e167, e168, t1, t2, hia, hld0, hst1, hXb, hXl, a1, a2, c1a, c1b, -ld25, -st25]
      have hrs := read_spec (x := (j : Int)) (hd.fr0 (hf.trans0 fX)) (by omega) (by omega)
      refine hrs.call ?_
      rintro _ w2 ⟨rfl, f2⟩
      rw [hok, if_pos rfl, hrd]
      have hst2 := hst w2 y hy64
      obtain ⟨Z, hZ⟩ : ∃ Z, Z = wr (nw w2 (bs (zb 64)) 25) (sz w2) (bs y) := ⟨_, rfl⟩
      rw [← hZ] at hst2
      have fZ : Fr [] w2 Z := by rw [hZ]; exact ((Fr.refl [] w2).nw _ _).wr (.inr (Nat.le_refl _)) _
      have hZm : mm Z (sz w2) = bs y := by rw [hZ, mm_wr_same]; simp [sz_nw, sz_wr, sz_drew, mm_nw, fz_nw, mm_drew, fz_drew, fz_wr, sz_mkS, mm_mkS, fz_mkS, Fr.mkS, mm_wr_same, mm_wr_ne, wr_wr, bs_oneT, splice_full, gt_zero, gt_succ, gt_set, gt_bs, byte_eq0, byte_eq1, byte_n0, byte_n1, Fr.refl, Fr.nw, Fr.wr, Fr.drew]
      have hZ1 : mm Z (sz w1) = bs y := by rw [fZ.mm (f2.lt hXs) (by simp), f2.mm hXs (by simp), hXm, hvj]
      have hl1 : pLoad P 25 (pt (sz w2) 0) Z = some (sec y, Z) := by
        rw [ld25 (by rw [hZm, bs_length]; omega), hZm, List.drop_zero, List.take_of_length_le (by rw [bs_length]; omega)]
      have hl2 : pLoad P 25 (pt (sz w1) 0) Z = some (sec y, Z) := by
        rw [ld25 (by rw [hZ1, bs_length]; omega), hZ1, List.drop_zero, List.take_of_length_le (by rw [bs_length]; omega)]
      try simp (maxDischargeDepth := 8) [↓bindV_some, ↓bindU_some, ↓condE_true, ↓condE_false, ↓pickE_true, ↓pickE_false, ↓pickE_or, ↓pickE_and, ↓grdE_true, ↓grdE_false, ↓grdE_tf, ↓grdE_ft, ↓grdE_undef, ↓nilE_pt, ↓thenK_normal, ↓thenK_exit, ↓thenK_ret, ↓thenK_goto, ↓thenK_panic, ↓blockK_exit, ↓blockK_normal, ↓blockK_ret, ↓blockK_goto, ↓blockK_panic, ↓loopK_normal, ↓loopK_exit, ↓loopK_ret, ↓loopK_goto, ↓loopK_panic, ↓topK_ret, ↓topK_normal, ↓topK_panic, ↓resVs_nil, ↓resVs_tmp, ↓resVs_cell, tup_one, tup_nil, tup_two, put_get, argE_get, ↓takeE_def, ↓heldE_nil, ↓heldE_cons, qNil_pt, qPick_bool, qGrd_bool, qGrd_undef, ↓letK_def, pBox_eq, pBin_add, pBin_sub, pBin_mul, pBin_eql, pBin_neq, pBin_lss, pBin_leq, pBin_gtr, pBin_geq, pUn_not, pUn_neg, eqB, neB, eqS, neS, pExtract0, pExtract1, pExtract2, max_int, min_int, sz_nw, sz_wr, sz_drew, mm_nw, fz_nw, mm_drew, fz_drew, fz_wr, sz_mkS, mm_mkS, fz_mkS, Fr.mkS, mm_wr_same, mm_wr_ne, wr_wr, bs_oneT, splice_full, gt_zero, gt_succ, gt_set, gt_bs, byte_eq0, byte_eq1, byte_n0, byte_n1, Fr.refl, Fr.nw, Fr.wr, Fr.drew, hst2, hl1, hl2, hne, e168, hwj, -ld25, -st25, -nes25, -Int.natCast_add]
      exact hN (S.length - (j + 1)) _ _ (by omega) ⟨j + 1, rfl, by omega, (((hf.trans0 fX).trans0 f2).trans0 fZ), by simp [put_get, e3], by simp [put_get, e5], by simp [put_get, e16], by simp [put_get, e166], by simp [put_get, e167], by simp [put_get]⟩
  · have t1 : (j < S.length) = False := eq_false hjl
    have t2 : ((j : Int) < S.length) = False := eq_false (by omega)
    try simp (maxDischargeDepth := 8) [↓bindV_some, ↓bindU_some, ↓condE_true, ↓condE_false, ↓pickE_true, ↓pickE_false, ↓pickE_or, ↓pickE_and, ↓grdE_true, ↓grdE_false, ↓grdE_tf, ↓grdE_ft, ↓grdE_undef, ↓nilE_pt, ↓thenK_normal, ↓thenK_exit, ↓thenK_ret, ↓thenK_goto, ↓thenK_panic, ↓blockK_exit, ↓blockK_normal, ↓blockK_ret, ↓blockK_goto, ↓blockK_panic, ↓loopK_normal, ↓loopK_exit, ↓loopK_ret, ↓loopK_goto, ↓loopK_panic, ↓topK_ret, ↓topK_normal, ↓topK_panic, ↓resVs_nil, ↓resVs_tmp, ↓resVs_cell, tup_one, tup_nil, tup_two, put_get, argE_get, ↓takeE_def, ↓heldE_nil, ↓heldE_cons, qNil_pt, qPick_bool, qGrd_bool, qGrd_undef, ↓letK_def, pBox_eq, pBin_add, pBin_sub, pBin_mul, pBin_eql, pBin_neq, pBin_lss, pBin_leq, pBin_gtr, pBin_geq, pUn_not, pUn_neg, eqB, neB, eqS, neS, pExtract0, pExtract1, pExtract2, max_int, min_int, sz_nw, sz_wr, sz_drew, mm_nw, fz_nw, mm_drew, fz_drew, fz_wr, sz_mkS, mm_mkS, fz_mkS, Fr.mkS, mm_wr_same, mm_wr_ne, wr_wr, bs_oneT, splice_full, gt_zero, gt_succ, gt_set, gt_bs, byte_eq0, byte_eq1, byte_n0, byte_n1, Fr.refl, Fr.nw, Fr.wr, Fr.drew, e167, e168, t1, t2]
    exact hX _ _ ⟨j, by omega, hj, hf, by simp [put_get, e3], by simp [put_get, e5], by simp [put_get, e16], by simp [put_get, e166], by simp [put_get, e167], by simp [put_get, e168]⟩
end Go.Proofs.Yticncfkpfpkfoaa
