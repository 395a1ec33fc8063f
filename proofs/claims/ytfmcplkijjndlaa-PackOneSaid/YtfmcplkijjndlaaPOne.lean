/- PackOne: the law. -/
import Derived.Test.YtfmcplkijjndlaaPackSp
import Derived.Test.YtfmcplkijjndlaaPackP
import Derived.Test.YtfmcplkijjndlaaWPackOne
set_option linter.unusedVariables false
set_option linter.unusedSimpArgs false
namespace Go.Proofs.Ytfmcplkijjndlaa
open Go

theorem packOne_law {w : World} {v : Value} {B K : List UInt8} (h : RdV w v B.length (bs B)) :
    Ret P 13 #[v, strB K] w fun x w' => x = .bool true ∧ Fr [] w w' := by
  refine F13ok ?_
  unfold F13
  obtain ⟨va, vc, hv⟩ := sl_of h
  have hlK : ∀ w, pBuiltin P .len #[9] 3 [strB K] w = some (i64 K.length, w) := fun w => len_strB und9
  refine speaks02.call ?_
  rintro _ w1 ⟨rfl, f1⟩
  have hlv : pBuiltin P .len #[40] 3 [v] w1 = some (i64 B.length, w1) := by rw [hv]; exact len40
  by_cases hb : 2000 < B.length
  · have c1 : ((2000 : Int) < B.length) = True := eq_true (by omega)
    try simp (maxDischargeDepth := 8) [↓bindV_some, ↓bindU_some, ↓condE_true, ↓condE_false, ↓pickE_true, ↓pickE_false, ↓pickE_or, ↓pickE_and, ↓grdE_true, ↓grdE_false, ↓grdE_tf, ↓grdE_ft, ↓grdE_undef, ↓nilE_pt, ↓thenK_normal, ↓thenK_exit, ↓thenK_ret, ↓thenK_goto, ↓thenK_panic, ↓blockK_exit, ↓blockK_normal, ↓blockK_ret, ↓blockK_goto, ↓blockK_panic, ↓loopK_normal, ↓loopK_exit, ↓loopK_ret, ↓loopK_goto, ↓loopK_panic, ↓topK_ret, ↓topK_normal, ↓topK_panic, ↓resVs_nil, ↓resVs_tmp, ↓resVs_cell, tup_one, tup_nil, tup_two, put_get, argE_get, ↓takeE_def, ↓heldE_nil, ↓heldE_cons, qNil_pt, qPick_bool, qGrd_bool, qGrd_undef, ↓letK_def, pBox_eq, pBin_add, pBin_sub, pBin_mul, pBin_eql, pBin_neq, pBin_lss, pBin_leq, pBin_gtr, pBin_geq, pUn_not, pUn_neg, eqB, neB, eqS, neS, pExtract0, pExtract1, pExtract2, max_int, min_int, sz_nw, sz_wr, sz_drew, mm_nw, fz_nw, mm_drew, fz_drew, fz_wr, sz_mkS, mm_mkS, fz_mkS, Fr.mkS, mm_wr_same, mm_wr_ne, wr_wr, bs_oneT, splice_full, gt_zero, gt_succ, gt_set, gt_bs, byte_eq0, byte_eq1, byte_n0, byte_n1, Fr.refl, Fr.nw, Fr.wr, Fr.drew, hlv, hlK, c1, hb]
    exact f1
  have c1 : ((2000 : Int) < B.length) = False := eq_false (by omega)
  have c1' : (2000 < B.length) = False := eq_false hb
  by_cases hk : 100 < K.length
  · have c2 : ((100 : Int) < K.length) = True := eq_true (by omega)
    try simp (maxDischargeDepth := 8) [↓bindV_some, ↓bindU_some, ↓condE_true, ↓condE_false, ↓pickE_true, ↓pickE_false, ↓pickE_or, ↓pickE_and, ↓grdE_true, ↓grdE_false, ↓grdE_tf, ↓grdE_ft, ↓grdE_undef, ↓nilE_pt, ↓thenK_normal, ↓thenK_exit, ↓thenK_ret, ↓thenK_goto, ↓thenK_panic, ↓blockK_exit, ↓blockK_normal, ↓blockK_ret, ↓blockK_goto, ↓blockK_panic, ↓loopK_normal, ↓loopK_exit, ↓loopK_ret, ↓loopK_goto, ↓loopK_panic, ↓topK_ret, ↓topK_normal, ↓topK_panic, ↓resVs_nil, ↓resVs_tmp, ↓resVs_cell, tup_one, tup_nil, tup_two, put_get, argE_get, ↓takeE_def, ↓heldE_nil, ↓heldE_cons, qNil_pt, qPick_bool, qGrd_bool, qGrd_undef, ↓letK_def, pBox_eq, pBin_add, pBin_sub, pBin_mul, pBin_eql, pBin_neq, pBin_lss, pBin_leq, pBin_gtr, pBin_geq, pUn_not, pUn_neg, eqB, neB, eqS, neS, pExtract0, pExtract1, pExtract2, max_int, min_int, sz_nw, sz_wr, sz_drew, mm_nw, fz_nw, mm_drew, fz_drew, fz_wr, sz_mkS, mm_mkS, fz_mkS, Fr.mkS, mm_wr_same, mm_wr_ne, wr_wr, bs_oneT, splice_full, gt_zero, gt_succ, gt_set, gt_bs, byte_eq0, byte_eq1, byte_n0, byte_n1, Fr.refl, Fr.nw, Fr.wr, Fr.drew, hlv, hlK, c1, c1', c2, hk]
    exact f1
  have c2 : ((100 : Int) < K.length) = False := eq_false (by omega)
  have c2' : (100 < K.length) = False := eq_false hk
  try simp (maxDischargeDepth := 8) [↓bindV_some, ↓bindU_some, ↓condE_true, ↓condE_false, ↓pickE_true, ↓pickE_false, ↓pickE_or, ↓pickE_and, ↓grdE_true, ↓grdE_false, ↓grdE_tf, ↓grdE_ft, ↓grdE_undef, ↓nilE_pt, ↓thenK_normal, ↓thenK_exit, ↓thenK_ret, ↓thenK_goto, ↓thenK_panic, ↓blockK_exit, ↓blockK_normal, ↓blockK_ret, ↓blockK_goto, ↓blockK_panic, ↓loopK_normal, ↓loopK_exit, ↓loopK_ret, ↓loopK_goto, ↓loopK_panic, ↓topK_ret, ↓topK_normal, ↓topK_panic, ↓resVs_nil, ↓resVs_tmp, ↓resVs_cell, tup_one, tup_nil, tup_two, put_get, argE_get, ↓takeE_def, ↓heldE_nil, ↓heldE_cons, qNil_pt, qPick_bool, qGrd_bool, qGrd_undef, ↓letK_def, pBox_eq, pBin_add, pBin_sub, pBin_mul, pBin_eql, pBin_neq, pBin_lss, pBin_leq, pBin_gtr, pBin_geq, pUn_not, pUn_neg, eqB, neB, eqS, neS, pExtract0, pExtract1, pExtract2, max_int, min_int, sz_nw, sz_wr, sz_drew, mm_nw, fz_nw, mm_drew, fz_drew, fz_wr, sz_mkS, mm_mkS, fz_mkS, Fr.mkS, mm_wr_same, mm_wr_ne, wr_wr, bs_oneT, splice_full, gt_zero, gt_succ, gt_set, gt_bs, byte_eq0, byte_eq1, byte_n0, byte_n1, Fr.refl, Fr.nw, Fr.wr, Fr.drew, hlv, hlK, c1, c1', c2, c2']
  refine (packRead_spec (most := 2000) (h.fr0 f1) (by omega) (by omega)).call ?_
  rintro _ w2 ⟨ov, rfl, hov, hok, f2⟩
  have g2 := f1.trans0 f2
  have hfail := readGo_fail 2000 K B 0 []
  have henc := enc_read (most := 2000) K B 0 []
  have hr : readGo 2000 K B 0 [] = readM B K 2000 := rfl
  rw [hr] at hfail henc
  have hrl := readM_len B K 2000
  generalize readM B K 2000 = r at *
  obtain ⟨L, c, k⟩ := r
  simp only [List.nil_append] at hov hok hfail hrl henc ⊢
  have hsp2 : ∀ (a b : Int) (l : List Value), l.length = 2 → splice l 0 [i64 a, i64 b] = [i64 a, i64 b] := fun a b l hl => splice_full (by rw [hl]; rfl)
  obtain ⟨W, hW⟩ : ∃ W, W = wr (nw w2 [i64 0, i64 0] 44) (sz w2) [i64 c, i64 k] := ⟨_, rfl⟩
  have fW : Fr [] w2 W := by rw [hW]; exact ((Fr.refl [] w2).nw _ _).wr (.inr (Nat.le_refl _)) _
  have hWm : mm W (sz w2) = [i64 c, i64 k] := by rw [hW]; simp [sz_nw, sz_wr, sz_drew, mm_nw, fz_nw, mm_drew, fz_drew, fz_wr, sz_mkS, mm_mkS, fz_mkS, Fr.mkS, mm_wr_same, mm_wr_ne, wr_wr, bs_oneT, splice_full, gt_zero, gt_succ, gt_set, gt_bs, byte_eq0, byte_eq1, byte_n0, byte_n1, Fr.refl, Fr.nw, Fr.wr, Fr.drew]
  have hWs : sz w2 < sz W := by rw [hW]; simp [sz_nw, sz_wr, sz_drew, mm_nw, fz_nw, mm_drew, fz_drew, fz_wr, sz_mkS, mm_mkS, fz_mkS, Fr.mkS, mm_wr_same, mm_wr_ne, wr_wr, bs_oneT, splice_full, gt_zero, gt_succ, gt_set, gt_bs, byte_eq0, byte_eq1, byte_n0, byte_n1, Fr.refl, Fr.nw, Fr.wr, Fr.drew]
  obtain ⟨oa, oc, hova⟩ := own_val hov
  subst hova
  try simp (maxDischargeDepth := 8) [↓bindV_some, ↓bindU_some, ↓condE_true, ↓condE_false, ↓pickE_true, ↓pickE_false, ↓pickE_or, ↓pickE_and, ↓grdE_true, ↓grdE_false, ↓grdE_tf, ↓grdE_ft, ↓grdE_undef, ↓nilE_pt, ↓thenK_normal, ↓thenK_exit, ↓thenK_ret, ↓thenK_goto, ↓thenK_panic, ↓blockK_exit, ↓blockK_normal, ↓blockK_ret, ↓blockK_goto, ↓blockK_panic, ↓loopK_normal, ↓loopK_exit, ↓loopK_ret, ↓loopK_goto, ↓loopK_panic, ↓topK_ret, ↓topK_normal, ↓topK_panic, ↓resVs_nil, ↓resVs_tmp, ↓resVs_cell, tup_one, tup_nil, tup_two, put_get, argE_get, ↓takeE_def, ↓heldE_nil, ↓heldE_cons, qNil_pt, qPick_bool, qGrd_bool, qGrd_undef, ↓letK_def, pBox_eq, pBin_add, pBin_sub, pBin_mul, pBin_eql, pBin_neq, pBin_lss, pBin_leq, pBin_gtr, pBin_geq, pUn_not, pUn_neg, eqB, neB, eqS, neS, pExtract0, pExtract1, pExtract2, max_int, min_int, sz_nw, sz_wr, sz_drew, mm_nw, fz_nw, mm_drew, fz_drew, fz_wr, sz_mkS, mm_mkS, fz_mkS, Fr.mkS, mm_wr_same, mm_wr_ne, wr_wr, bs_oneT, splice_full, gt_zero, gt_succ, gt_set, gt_bs, byte_eq0, byte_eq1, byte_n0, byte_n1, Fr.refl, Fr.nw, Fr.wr, Fr.drew, hsp2, ← hW, hWm]
  by_cases hc : c = 0
  · have hci : ((c : Int) = 0) = True := eq_true (by omega)
    have hcn : (c = 0) = True := eq_true hc
    obtain ⟨M, hM1, hM2⟩ := henc hc
    subst hM1
    have fW := fW.drew
    have hcW : pConv P 40 9 v (drew W) = some (strB B, drew W) := conv_str sliceE40 intK5 und9 (h.fr0 (g2.trans0 fW))
    try simp (maxDischargeDepth := 8) [↓bindV_some, ↓bindU_some, ↓condE_true, ↓condE_false, ↓pickE_true, ↓pickE_false, ↓pickE_or, ↓pickE_and, ↓grdE_true, ↓grdE_false, ↓grdE_tf, ↓grdE_ft, ↓grdE_undef, ↓nilE_pt, ↓thenK_normal, ↓thenK_exit, ↓thenK_ret, ↓thenK_goto, ↓thenK_panic, ↓blockK_exit, ↓blockK_normal, ↓blockK_ret, ↓blockK_goto, ↓blockK_panic, ↓loopK_normal, ↓loopK_exit, ↓loopK_ret, ↓loopK_goto, ↓loopK_panic, ↓topK_ret, ↓topK_normal, ↓topK_panic, ↓resVs_nil, ↓resVs_tmp, ↓resVs_cell, tup_one, tup_nil, tup_two, put_get, argE_get, ↓takeE_def, ↓heldE_nil, ↓heldE_cons, qNil_pt, qPick_bool, qGrd_bool, qGrd_undef, ↓letK_def, pBox_eq, pBin_add, pBin_sub, pBin_mul, pBin_eql, pBin_neq, pBin_lss, pBin_leq, pBin_gtr, pBin_geq, pUn_not, pUn_neg, eqB, neB, eqS, neS, pExtract0, pExtract1, pExtract2, max_int, min_int, sz_nw, sz_wr, sz_drew, mm_nw, fz_nw, mm_drew, fz_drew, fz_wr, sz_mkS, mm_mkS, fz_mkS, Fr.mkS, mm_wr_same, mm_wr_ne, wr_wr, bs_oneT, splice_full, gt_zero, gt_succ, gt_set, gt_bs, byte_eq0, byte_eq1, byte_n0, byte_n1, Fr.refl, Fr.nw, Fr.wr, Fr.drew, hci, hcn, hcW]
    have hp : IsParts (drew W) (.slice oa L.length oc) L := ⟨(own_rd hov).fr0 fW, hok⟩
    refine (write_spec hp (by rw [hM2]; omega)).call ?_
    rintro x w3 ⟨hx, f3⟩
    rw [hM2] at hx
    have hc3 : pConv P 40 9 v w3 = some (strB B, w3) := conv_str sliceE40 intK5 und9 (h.fr0 ((g2.trans0 fW).trans0 f3))
    have hx3 : pConv P 40 9 x w3 = some (strB B, w3) := conv_str sliceE40 intK5 und9 (own_rd hx)
    have he : ∀ w, pBin P .eql 9 false (strB B) (strB B) w = some (.bool true, w) := fun w => by rw [eq_strB]; simp
    try simp (maxDischargeDepth := 8) [↓bindV_some, ↓bindU_some, ↓condE_true, ↓condE_false, ↓pickE_true, ↓pickE_false, ↓pickE_or, ↓pickE_and, ↓grdE_true, ↓grdE_false, ↓grdE_tf, ↓grdE_ft, ↓grdE_undef, ↓nilE_pt, ↓thenK_normal, ↓thenK_exit, ↓thenK_ret, ↓thenK_goto, ↓thenK_panic, ↓blockK_exit, ↓blockK_normal, ↓blockK_ret, ↓blockK_goto, ↓blockK_panic, ↓loopK_normal, ↓loopK_exit, ↓loopK_ret, ↓loopK_goto, ↓loopK_panic, ↓topK_ret, ↓topK_normal, ↓topK_panic, ↓resVs_nil, ↓resVs_tmp, ↓resVs_cell, tup_one, tup_nil, tup_two, put_get, argE_get, ↓takeE_def, ↓heldE_nil, ↓heldE_cons, qNil_pt, qPick_bool, qGrd_bool, qGrd_undef, ↓letK_def, pBox_eq, pBin_add, pBin_sub, pBin_mul, pBin_eql, pBin_neq, pBin_lss, pBin_leq, pBin_gtr, pBin_geq, pUn_not, pUn_neg, eqB, neB, eqS, neS, pExtract0, pExtract1, pExtract2, max_int, min_int, sz_nw, sz_wr, sz_drew, mm_nw, fz_nw, mm_drew, fz_drew, fz_wr, sz_mkS, mm_mkS, fz_mkS, Fr.mkS, mm_wr_same, mm_wr_ne, wr_wr, bs_oneT, splice_full, gt_zero, gt_succ, gt_set, gt_bs, byte_eq0, byte_eq1, byte_n0, byte_n1, Fr.refl, Fr.nw, Fr.wr, Fr.drew, hc3, hx3, he]
    exact (g2.trans0 fW).trans0 f3
  · have hl0 : L.length = 0 := by rw [hfail hc]; rfl
    have hci : ((c : Int) = 0) = False := eq_false (by omega)
    have hcn : (c = 0) = False := eq_false hc
    try simp (maxDischargeDepth := 8) [↓bindV_some, ↓bindU_some, ↓condE_true, ↓condE_false, ↓pickE_true, ↓pickE_false, ↓pickE_or, ↓pickE_and, ↓grdE_true, ↓grdE_false, ↓grdE_tf, ↓grdE_ft, ↓grdE_undef, ↓nilE_pt, ↓thenK_normal, ↓thenK_exit, ↓thenK_ret, ↓thenK_goto, ↓thenK_panic, ↓blockK_exit, ↓blockK_normal, ↓blockK_ret, ↓blockK_goto, ↓blockK_panic, ↓loopK_normal, ↓loopK_exit, ↓loopK_ret, ↓loopK_goto, ↓loopK_panic, ↓topK_ret, ↓topK_normal, ↓topK_panic, ↓resVs_nil, ↓resVs_tmp, ↓resVs_cell, tup_one, tup_nil, tup_two, put_get, argE_get, ↓takeE_def, ↓heldE_nil, ↓heldE_cons, qNil_pt, qPick_bool, qGrd_bool, qGrd_undef, ↓letK_def, pBox_eq, pBin_add, pBin_sub, pBin_mul, pBin_eql, pBin_neq, pBin_lss, pBin_leq, pBin_gtr, pBin_geq, pUn_not, pUn_neg, eqB, neB, eqS, neS, pExtract0, pExtract1, pExtract2, max_int, min_int, sz_nw, sz_wr, sz_drew, mm_nw, fz_nw, mm_drew, fz_drew, fz_wr, sz_mkS, mm_mkS, fz_mkS, Fr.mkS, mm_wr_same, mm_wr_ne, wr_wr, bs_oneT, splice_full, gt_zero, gt_succ, gt_set, gt_bs, byte_eq0, byte_eq1, byte_n0, byte_n1, Fr.refl, Fr.nw, Fr.wr, Fr.drew, hci, hcn, hl0]
    exact ⟨hfail hc, g2.trans0 fW⟩
end Go.Proofs.Ytfmcplkijjndlaa
