/- RollKeeps: its loops. -/
import Derived.Test.YticncfkpfpkfoaaRollV
import Derived.Test.YticncfkpfpkfoaaRDown
import Derived.Test.YticncfkpfpkfoaaWRollK
set_option linter.unusedVariables false
set_option linter.unusedSimpArgs false
namespace Go.Proofs.Yticncfkpfpkfoaa
open Go

/-- Sectors that stand on the disk are read one by one. -/
def RdI (w0 : World) (b : Nat) (sv : Value) (n : Nat) (N lf : Nat) (e0 : Env) (m : Nat) (e : Env) (w' : World) : Prop :=
  ∃ i : Nat, m = n - i ∧ i ≤ n ∧ Fr [] w0 w' ∧ e 0 = i64 N ∧ e 5 = pt b 0 ∧ e 12 = i64 lf ∧ e 70 = sv ∧ e 71 = i64 n ∧ e 72 = i64 i ∧
    e 7 = e0 7 ∧ e 8 = e0 8 ∧ e 11 = e0 11 ∧ e 14 = e0 14 ∧ e 15 = e0 15 ∧ e 16 = e0 16 ∧ e 57 = e0 57 ∧ e 58 = e0 58 ∧ e 59 = e0 59
theorem read_loop {w0 : World} {b : Nat} {sv : Value} {S : List (List UInt8)} {N lf at_ : Nat} {D : DD} {F : List Nat} {e0 : Env} (hsv : RdV w0 sv S.length (flat bs S)) (hS : ∀ s ∈ S, s.length = 64) (hd : IsD w0 b D F) (hc : CalmN N D)
    (hN : N ≤ 4096) (hat : at_ + lf = N) (hfit : at_ + S.length ≤ N) (hv : ∀ i s, S[i]? = some s → view D (at_ + i) = s) {m : Nat} {e : Env} {w1 : World} (hI : RdI w0 b sv S.length N lf e0 m e w1) {K : KT}
    (hN' : ∀ m' e' w', m' < m → RdI w0 b sv S.length N lf e0 m' e' w' → K .normal e' w') (hX : ∀ e' w', RdI w0 b sv S.length N lf e0 0 e' w' → K (.exit 3) e' w') : F14B1 e w1 K := by
  obtain ⟨i, hm, hi, hf, e00, e5, e12, e70, e71, e72, h7, h8, h11, h14, h15, h16, h57, h58, h59⟩ := hI
  subst hm
  unfold F14B1
  by_cases hlt : i < S.length
  · have hl1 : (i < S.length) = True := eq_true hlt
    have hl2 : ((i : Int) < S.length) = True := eq_true (by omega)
    obtain ⟨s, hs⟩ : ∃ s, S[i]? = some s := ⟨_, List.getElem?_eq_getElem hlt⟩
    have hs64 := hS s (List.mem_of_getElem? hs)
    obtain ⟨sb, so, sc, hsv2, hsb, hin, htk⟩ := flat_at (n := 64) (hsv.fr0 hf) (fun p hp => by rw [bs_length]; exact hS p hp) (by omega) hs
    have hia : ∀ w', pIndexAddr P 76 sv (i64 i) w' = some (pt sb (so + i * 64), w') := fun w' => by
      rw [hsv2]
      have := ia76 (w := w') (b := sb) (o := so) (n := S.length) (c := sc) (k := .i64) (j := (i : Int)) (by omega) (by omega)
      rw [this]; simp
    have hld0 : pLoad P 25 (pt sb (so + i * 64)) w1 = some (sec s, w1) := by rw [ld25 hin, htk]
    have hst : ∀ (w : World) (q : List UInt8), q.length = 64 → pStore P 25 (pt (sz w) 0) (sec q) (nw w (bs (zb 64)) 25) = some (wr (nw w (bs (zb 64)) 25) (sz w) (bs q)) := fun w q hq => by
      try simp (maxDischargeDepth := 8) [↓bindV_some, ↓bindU_some, ↓condE_true, ↓condE_false, ↓pickE_true, ↓pickE_false, ↓pickE_or, ↓pickE_and, ↓grdE_true, ↓grdE_false, ↓grdE_tf, ↓grdE_ft, ↓grdE_undef, ↓nilE_pt, ↓thenK_normal, ↓thenK_exit, ↓thenK_ret, ↓thenK_goto, ↓thenK_panic, ↓blockK_exit, ↓blockK_normal, ↓blockK_ret, ↓blockK_goto, ↓blockK_panic, ↓loopK_normal, ↓loopK_exit, ↓loopK_ret, ↓loopK_goto, ↓loopK_panic, ↓topK_ret, ↓topK_normal, ↓topK_panic, ↓resVs_nil, ↓resVs_tmp, ↓resVs_cell, tup_one, tup_nil, tup_two, put_get, argE_get, ↓takeE_def, ↓heldE_nil, ↓heldE_cons, qNil_pt, qPick_bool, qGrd_bool, qGrd_undef, ↓letK_def, pBox_eq, pBin_add, pBin_sub, pBin_mul, pBin_eql, pBin_neq, pBin_lss, pBin_leq, pBin_gtr, pBin_geq, pUn_not, pUn_neg, eqB, neB, eqS, neS, pExtract0, pExtract1, pExtract2, max_int, min_int, sz_nw, sz_wr, sz_drew, mm_nw, fz_nw, mm_drew, fz_drew, fz_wr, sz_mkS, mm_mkS, fz_mkS, Fr.mkS, mm_wr_same, mm_wr_ne, wr_wr, bs_oneT, splice_full, gt_zero, gt_succ, gt_set, gt_bs, byte_eq0, byte_eq1, byte_n0, byte_n1, Fr.refl, Fr.nw, Fr.wr, Fr.drew, hq]
    obtain ⟨X, hX1⟩ : ∃ X, X = wr (nw w1 (bs (zb 64)) 25) (sz w1) (bs s) := ⟨_, rfl⟩
    have hst1 := hst w1 s hs64
    rw [← hX1] at hst1
    have fX : Fr [] w1 X := by rw [hX1]; exact ((Fr.refl [] w1).nw _ _).wr (.inr (Nat.le_refl _)) _
    have hXm : mm X (sz w1) = bs s := by rw [hX1, mm_wr_same]; simp [sz_nw, sz_wr, sz_drew, mm_nw, fz_nw, mm_drew, fz_drew, fz_wr, sz_mkS, mm_mkS, fz_mkS, Fr.mkS, mm_wr_same, mm_wr_ne, wr_wr, bs_oneT, splice_full, gt_zero, gt_succ, gt_set, gt_bs, byte_eq0, byte_eq1, byte_n0, byte_n1, Fr.refl, Fr.nw, Fr.wr, Fr.drew]
    have hXs : sz w1 < sz X := by rw [hX1]; simp [sz_nw, sz_wr, sz_drew, mm_nw, fz_nw, mm_drew, fz_drew, fz_wr, sz_mkS, mm_mkS, fz_mkS, Fr.mkS, mm_wr_same, mm_wr_ne, wr_wr, bs_oneT, splice_full, gt_zero, gt_succ, gt_set, gt_bs, byte_eq0, byte_eq1, byte_n0, byte_n1, Fr.refl, Fr.nw, Fr.wr, Fr.drew]
    have a1 : IntKind.i64.wrap ((N : Int) - lf) = (at_ : Int) := by rw [wrap64 (by omega) (by omega)]; omega
    obtain ⟨x1, hx1⟩ : ∃ x1 : Nat, x1 = at_ + i := ⟨_, rfl⟩
    have a2 : IntKind.i64.wrap ((at_ : Int) + i) = (x1 : Int) := by rw [wrap64 (by omega) (by omega)]; omega
    try simp (maxDischargeDepth := 8) [↓bindV_some, ↓bindU_some, ↓condE_true, ↓condE_false, ↓pickE_true, ↓pickE_false, ↓pickE_or, ↓pickE_and, ↓grdE_true, ↓grdE_false, ↓grdE_tf, ↓grdE_ft, ↓grdE_undef, ↓nilE_pt, ↓thenK_normal, ↓thenK_exit, ↓thenK_ret, ↓thenK_goto, ↓thenK_panic, ↓blockK_exit, ↓blockK_normal, ↓blockK_ret, ↓blockK_goto, ↓blockK_panic, ↓loopK_normal, ↓loopK_exit, ↓loopK_ret, ↓loopK_goto, ↓loopK_panic, ↓topK_ret, ↓topK_normal, ↓topK_panic, ↓resVs_nil, ↓resVs_tmp, ↓resVs_cell, tup_one, tup_nil, tup_two, put_get, argE_get, ↓takeE_def, ↓heldE_nil, ↓heldE_cons, qNil_pt, qPick_bool, qGrd_bool, qGrd_undef, ↓letK_def, pBox_eq, pBin_add, pBin_sub, pBin_mul, pBin_eql, pBin_neq, pBin_lss, pBin_leq, pBin_gtr, pBin_geq, pUn_not, pUn_neg, eqB, neB, eqS, neS, pExtract0, pExtract1, pExtract2, max_int, min_int, sz_nw, sz_wr, sz_drew, mm_nw, fz_nw, mm_drew, fz_drew, fz_wr, sz_mkS, mm_mkS, fz_mkS, Fr.mkS, mm_wr_same, mm_wr_ne, wr_wr, bs_oneT, splice_full, gt_zero, gt_succ, gt_set, gt_bs, byte_eq0, byte_eq1, byte_n0, byte_n1, Fr.refl, Fr.nw, Fr.wr, Fr.drew, e00, e5, e12, e70, e71, e72, hl1, hl2, hia, hld0, hst1, a1, a2, -ld25, -st25]
    refine (read_spec (x := (x1 : Int)) (hd.fr0 (hf.trans0 fX)) (by omega) (by omega)).call ?_
    rintro _ w2 ⟨rfl, f2⟩
    have hok : okE D (x1 : Int) = 0 := hc.ok (x := x1) (by omega)
    have hrd : readD D (x1 : Int) = s := by rw [hx1]; exact hv i s hs
    rw [hok, if_pos rfl, hrd]
    have hst2 := hst w2 s hs64
    obtain ⟨Y, hY⟩ : ∃ Y, Y = wr (nw w2 (bs (zb 64)) 25) (sz w2) (bs s) := ⟨_, rfl⟩
    rw [← hY] at hst2
    have fY : Fr [] w2 Y := by rw [hY]; exact ((Fr.refl [] w2).nw _ _).wr (.inr (Nat.le_refl _)) _
    have hYm : mm Y (sz w2) = bs s := by rw [hY, mm_wr_same]; simp [sz_nw, sz_wr, sz_drew, mm_nw, fz_nw, mm_drew, fz_drew, fz_wr, sz_mkS, mm_mkS, fz_mkS, Fr.mkS, mm_wr_same, mm_wr_ne, wr_wr, bs_oneT, splice_full, gt_zero, gt_succ, gt_set, gt_bs, byte_eq0, byte_eq1, byte_n0, byte_n1, Fr.refl, Fr.nw, Fr.wr, Fr.drew]
    have hYm1 : mm Y (sz w1) = bs s := by rw [fY.mm (f2.lt hXs) (by simp), f2.mm hXs (by simp), hXm]
    have hld1 : pLoad P 25 (pt (sz w2) 0) Y = some (sec s, Y) := by
      rw [ld25 (by rw [hYm, bs_length]; omega), hYm, List.drop_zero, List.take_of_length_le (by rw [bs_length]; omega)]
    have hld2 : pLoad P 25 (pt (sz w1) 0) Y = some (sec s, Y) := by
      rw [ld25 (by rw [hYm1, bs_length]; omega), hYm1, List.drop_zero, List.take_of_length_le (by rw [bs_length]; omega)]
    have hne : ∀ w, pBin P .neq 25 false (sec s) (sec s) w = some (.bool false, w) := fun w => by rw [nes25 hs64 hs64]; simp
    have hw1 : IntKind.i64.wrap ((i : Int) + 1) = ((i + 1 : Nat) : Int) := wrap64 (by omega) (by omega)
    try simp (maxDischargeDepth := 8) [↓bindV_some, ↓bindU_some, ↓condE_true, ↓condE_false, ↓pickE_true, ↓pickE_false, ↓pickE_or, ↓pickE_and, ↓grdE_true, ↓grdE_false, ↓grdE_tf, ↓grdE_ft, ↓grdE_undef, ↓nilE_pt, ↓thenK_normal, ↓thenK_exit, ↓thenK_ret, ↓thenK_goto, ↓thenK_panic, ↓blockK_exit, ↓blockK_normal, ↓blockK_ret, ↓blockK_goto, ↓blockK_panic, ↓loopK_normal, ↓loopK_exit, ↓loopK_ret, ↓loopK_goto, ↓loopK_panic, ↓topK_ret, ↓topK_normal, ↓topK_panic, ↓resVs_nil, ↓resVs_tmp, ↓resVs_cell, tup_one, tup_nil, tup_two, put_get, argE_get, ↓takeE_def, ↓heldE_nil, ↓heldE_cons, qNil_pt, qPick_bool, qGrd_bool, qGrd_undef, ↓letK_def, pBox_eq, pBin_add, pBin_sub, pBin_mul, pBin_eql, pBin_neq, pBin_lss, pBin_leq, pBin_gtr, pBin_geq, pUn_not, pUn_neg, eqB, neB, eqS, neS, pExtract0, pExtract1, pExtract2, max_int, min_int, sz_nw, sz_wr, sz_drew, mm_nw, fz_nw, mm_drew, fz_drew, fz_wr, sz_mkS, mm_mkS, fz_mkS, Fr.mkS, mm_wr_same, mm_wr_ne, wr_wr, bs_oneT, splice_full, gt_zero, gt_succ, gt_set, gt_bs, byte_eq0, byte_eq1, byte_n0, byte_n1, Fr.refl, Fr.nw, Fr.wr, Fr.drew, hst2, hld1, hld2, hne, e72, hw1, -ld25, -st25, -nes25, -Int.natCast_add]
    exact hN' (S.length - (i + 1)) _ _ (by omega) ⟨i + 1, rfl, by omega, (((hf.trans0 fX).trans0 f2).trans0 fY), by simp [put_get, e00], by simp [put_get, e5], by simp [put_get, e12], by simp [put_get, e70], by simp [put_get, e71], by simp [put_get],
      by simp [put_get, h7], by simp [put_get, h8], by simp [put_get, h11], by simp [put_get, h14], by simp [put_get, h15], by simp [put_get, h16], by simp [put_get, h57], by simp [put_get, h58], by simp [put_get, h59]⟩
  · have hl1 : (i < S.length) = False := eq_false hlt
    have hl2 : ((i : Int) < S.length) = False := eq_false (by omega)
    try simp (maxDischargeDepth := 8) [↓bindV_some, ↓bindU_some, ↓condE_true, ↓condE_false, ↓pickE_true, ↓pickE_false, ↓pickE_or, ↓pickE_and, ↓grdE_true, ↓grdE_false, ↓grdE_tf, ↓grdE_ft, ↓grdE_undef, ↓nilE_pt, ↓thenK_normal, ↓thenK_exit, ↓thenK_ret, ↓thenK_goto, ↓thenK_panic, ↓blockK_exit, ↓blockK_normal, ↓blockK_ret, ↓blockK_goto, ↓blockK_panic, ↓loopK_normal, ↓loopK_exit, ↓loopK_ret, ↓loopK_goto, ↓loopK_panic, ↓topK_ret, ↓topK_normal, ↓topK_panic, ↓resVs_nil, ↓resVs_tmp, ↓resVs_cell, tup_one, tup_nil, tup_two, put_get, argE_get, ↓takeE_def, ↓heldE_nil, ↓heldE_cons, qNil_pt, qPick_bool, qGrd_bool, qGrd_undef, ↓letK_def, pBox_eq, pBin_add, pBin_sub, pBin_mul, pBin_eql, pBin_neq, pBin_lss, pBin_leq, pBin_gtr, pBin_geq, pUn_not, pUn_neg, eqB, neB, eqS, neS, pExtract0, pExtract1, pExtract2, max_int, min_int, sz_nw, sz_wr, sz_drew, mm_nw, fz_nw, mm_drew, fz_drew, fz_wr, sz_mkS, mm_mkS, fz_mkS, Fr.mkS, mm_wr_same, mm_wr_ne, wr_wr, bs_oneT, splice_full, gt_zero, gt_succ, gt_set, gt_bs, byte_eq0, byte_eq1, byte_n0, byte_n1, Fr.refl, Fr.nw, Fr.wr, Fr.drew, e71, e72, hl1, hl2]
    exact hX _ _ ⟨i, by omega, hi, hf, by simp [put_get, e00], by simp [put_get, e5], by simp [put_get, e12], by simp [put_get, e70], by simp [put_get, e71], by simp [put_get, e72],
      by simp [put_get, h7], by simp [put_get, h8], by simp [put_get, h11], by simp [put_get, h14], by simp [put_get, h15], by simp [put_get, h16], by simp [put_get, h57], by simp [put_get, h58], by simp [put_get, h59]⟩
end Go.Proofs.Yticncfkpfpkfoaa
