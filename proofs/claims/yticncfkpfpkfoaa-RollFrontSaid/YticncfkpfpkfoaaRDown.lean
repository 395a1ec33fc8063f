/- RollDown: the law. -/
import Derived.Test.YticncfkpfpkfoaaRollT
set_option linter.unusedVariables false
set_option linter.unusedSimpArgs false
namespace Go.Proofs.Yticncfkpfpkfoaa
open Go

theorem rd_old {w : World} {v : Value} {B : List UInt8} (h : RdV w v B.length (bs B)) (h0 : 0 < B.length) {k : Nat} (hk : v.ownBlock = some k) : k < sz w := by
  rcases id h with ⟨_, _, _, h1, _⟩ | ⟨b1, o1, c1, h1, _, _, h2, _⟩
  · omega
  · subst h1
    have : b1 = k := by simpa [Value.ownBlock] using hk
    omega
theorem rollDown_law {w : World} {v : Value} {B : List UInt8} {cd : UInt8} (h : RdV w v B.length (bs B)) :
    Ret P 12 #[v, bv cd] w fun x w' => x = .bool true ∧ Fr [] w w' := by
  refine F12ok ?_
  unfold F12
  obtain ⟨va, vc, hv⟩ := sl_of h
  have hlv : ∀ w, pBuiltin P .len #[22] 3 [v] w = some (i64 B.length, w) := fun w => by rw [hv]; exact len22
  refine speaks19.call ?_
  rintro _ w1 ⟨rfl, f1⟩
  by_cases hb : 3000 < B.length
  · have c1 : ((3000 : Int) < B.length) = True := eq_true (by omega)
    have c2 : (3000 < B.length) = True := eq_true hb
    try simp (maxDischargeDepth := 8) [↓bindV_some, ↓bindU_some, ↓condE_true, ↓condE_false, ↓pickE_true, ↓pickE_false, ↓pickE_or, ↓pickE_and, ↓grdE_true, ↓grdE_false, ↓grdE_tf, ↓grdE_ft, ↓grdE_undef, ↓nilE_pt, ↓thenK_normal, ↓thenK_exit, ↓thenK_ret, ↓thenK_goto, ↓thenK_panic, ↓blockK_exit, ↓blockK_normal, ↓blockK_ret, ↓blockK_goto, ↓blockK_panic, ↓loopK_normal, ↓loopK_exit, ↓loopK_ret, ↓loopK_goto, ↓loopK_panic, ↓topK_ret, ↓topK_normal, ↓topK_panic, ↓resVs_nil, ↓resVs_tmp, ↓resVs_cell, tup_one, tup_nil, tup_two, put_get, argE_get, ↓takeE_def, ↓heldE_nil, ↓heldE_cons, qNil_pt, qPick_bool, qGrd_bool, qGrd_undef, ↓letK_def, pBox_eq, pBin_add, pBin_sub, pBin_mul, pBin_eql, pBin_neq, pBin_lss, pBin_leq, pBin_gtr, pBin_geq, pUn_not, pUn_neg, eqB, neB, eqS, neS, pExtract0, pExtract1, pExtract2, max_int, min_int, sz_nw, sz_wr, sz_drew, mm_nw, fz_nw, mm_drew, fz_drew, fz_wr, sz_mkS, mm_mkS, fz_mkS, Fr.mkS, mm_wr_same, mm_wr_ne, wr_wr, bs_oneT, splice_full, gt_zero, gt_succ, gt_set, gt_bs, byte_eq0, byte_eq1, byte_n0, byte_n1, Fr.refl, Fr.nw, Fr.wr, Fr.drew, hlv, c1, c2]
    exact f1
  have c1 : ((3000 : Int) < B.length) = False := eq_false (by omega)
  have c2 : (3000 < B.length) = False := eq_false hb
  try simp (maxDischargeDepth := 8) [↓bindV_some, ↓bindU_some, ↓condE_true, ↓condE_false, ↓pickE_true, ↓pickE_false, ↓pickE_or, ↓pickE_and, ↓grdE_true, ↓grdE_false, ↓grdE_tf, ↓grdE_ft, ↓grdE_undef, ↓nilE_pt, ↓thenK_normal, ↓thenK_exit, ↓thenK_ret, ↓thenK_goto, ↓thenK_panic, ↓blockK_exit, ↓blockK_normal, ↓blockK_ret, ↓blockK_goto, ↓blockK_panic, ↓loopK_normal, ↓loopK_exit, ↓loopK_ret, ↓loopK_goto, ↓loopK_panic, ↓topK_ret, ↓topK_normal, ↓topK_panic, ↓resVs_nil, ↓resVs_tmp, ↓resVs_cell, tup_one, tup_nil, tup_two, put_get, argE_get, ↓takeE_def, ↓heldE_nil, ↓heldE_cons, qNil_pt, qPick_bool, qGrd_bool, qGrd_undef, ↓letK_def, pBox_eq, pBin_add, pBin_sub, pBin_mul, pBin_eql, pBin_neq, pBin_lss, pBin_leq, pBin_gtr, pBin_geq, pUn_not, pUn_neg, eqB, neB, eqS, neS, pExtract0, pExtract1, pExtract2, max_int, min_int, sz_nw, sz_wr, sz_drew, mm_nw, fz_nw, mm_drew, fz_drew, fz_wr, sz_mkS, mm_mkS, fz_mkS, Fr.mkS, mm_wr_same, mm_wr_ne, wr_wr, bs_oneT, splice_full, gt_zero, gt_succ, gt_set, gt_bs, byte_eq0, byte_eq1, byte_n0, byte_n1, Fr.refl, Fr.nw, Fr.wr, Fr.drew, hlv, c1, c2]
  have hnew : Ret P 27 #[.int .i64 80] w1 _ := new_spec (w := w1) (n := 80) (by omega) (by omega)
  refine hnew.call ?_
  rintro _ w2 ⟨b, F, rfl, hd2, f2, hF⟩
  have g2 := f1.trans0 f2
  have b65a : ∀ w, pBuild P 65 [(1, Value.int .i64 80)] w = some (.agg #[i64 0, i64 80], w) := fun w => by rw [bf65 (by simp)]; rfl
  have hsp2 : ∀ (a b : Int) (l : List Value), l.length = 2 → splice l 0 [i64 a, i64 b] = [i64 a, i64 b] := fun a b l hl => splice_full (by rw [hl]; rfl)
  obtain ⟨W, hW⟩ : ∃ W, W = wr (nw w2 [i64 0, i64 0] 65) (sz w2) [i64 0, i64 80] := ⟨_, rfl⟩
  have fW : Fr [] w2 W := by rw [hW]; exact ((Fr.refl [] w2).nw _ _).wr (.inr (Nat.le_refl _)) _
  have hWm : mm W (sz w2) = [i64 0, i64 80] := by rw [hW]; simp [sz_nw, sz_wr, sz_drew, mm_nw, fz_nw, mm_drew, fz_drew, fz_wr, sz_mkS, mm_mkS, fz_mkS, Fr.mkS, mm_wr_same, mm_wr_ne, wr_wr, bs_oneT, splice_full, gt_zero, gt_succ, gt_set, gt_bs, byte_eq0, byte_eq1, byte_n0, byte_n1, Fr.refl, Fr.nw, Fr.wr, Fr.drew]
  have hWz : fz W (sz w2) = false := by rw [hW]; simp [sz_nw, sz_wr, sz_drew, mm_nw, fz_nw, mm_drew, fz_drew, fz_wr, sz_mkS, mm_mkS, fz_mkS, Fr.mkS, mm_wr_same, mm_wr_ne, wr_wr, bs_oneT, splice_full, gt_zero, gt_succ, gt_set, gt_bs, byte_eq0, byte_eq1, byte_n0, byte_n1, Fr.refl, Fr.nw, Fr.wr, Fr.drew]
  have hWs := lt_of_fz hWz
  have gW := g2.trans0 fW
  try simp (maxDischargeDepth := 8) [↓bindV_some, ↓bindU_some, ↓condE_true, ↓condE_false, ↓pickE_true, ↓pickE_false, ↓pickE_or, ↓pickE_and, ↓grdE_true, ↓grdE_false, ↓grdE_tf, ↓grdE_ft, ↓grdE_undef, ↓nilE_pt, ↓thenK_normal, ↓thenK_exit, ↓thenK_ret, ↓thenK_goto, ↓thenK_panic, ↓blockK_exit, ↓blockK_normal, ↓blockK_ret, ↓blockK_goto, ↓blockK_panic, ↓loopK_normal, ↓loopK_exit, ↓loopK_ret, ↓loopK_goto, ↓loopK_panic, ↓topK_ret, ↓topK_normal, ↓topK_panic, ↓resVs_nil, ↓resVs_tmp, ↓resVs_cell, tup_one, tup_nil, tup_two, put_get, argE_get, ↓takeE_def, ↓heldE_nil, ↓heldE_cons, qNil_pt, qPick_bool, qGrd_bool, qGrd_undef, ↓letK_def, pBox_eq, pBin_add, pBin_sub, pBin_mul, pBin_eql, pBin_neq, pBin_lss, pBin_leq, pBin_gtr, pBin_geq, pUn_not, pUn_neg, eqB, neB, eqS, neS, pExtract0, pExtract1, pExtract2, max_int, min_int, sz_nw, sz_wr, sz_drew, mm_nw, fz_nw, mm_drew, fz_drew, fz_wr, sz_mkS, mm_mkS, fz_mkS, Fr.mkS, mm_wr_same, mm_wr_ne, wr_wr, bs_oneT, splice_full, gt_zero, gt_succ, gt_set, gt_bs, byte_eq0, byte_eq1, byte_n0, byte_n1, Fr.refl, Fr.nw, Fr.wr, Fr.drew, b65a, hsp2, ← hW, hWm, -bf65]
  have hop : Ret P 45 #[pt b 0, .agg #[.int .i64 0, .int .i64 80]] W _ := open_new (N := 80) (fr := 0) (ln := 80) (hd2.fr0 fW) (by omega) (by omega) (by omega) (by omega)
  refine hop.call ?_
  rintro _ w3 ⟨r, ov, D1, F1, rfl, hd3, hg3, hro3, hrw, hrF, hc1, hp1, hlaid1, hw1⟩
  have hF1 : ∀ k ∈ F1, sz w ≤ k ∧ k ≠ sz w2 := fun k hk => by
    have := hd2.ltF
    rcases hg3.new k hk with h | h
    · have := hF k h; have := f1.size; have := hd2.ltF k h; omega
    · have := gW.size; have := fW.size; omega
  have hFw : ∀ k ∈ F, sz w ≤ k := fun k hk => by have := hF k hk; have := f1.size; omega
  have g3 : Fr [] w w3 := gW.trans hg3.fr (fun k hk => .inr (hFw k hk))
  have hm3 : mm w3 (sz w2) = [i64 0, i64 80] := by rw [hg3.fr.mm hWs (fun hk => by have := hd2.ltF _ hk; omega), hWm]
  have hz3 : fz w3 (sz w2) = false := by rw [hg3.fr.fz hWs (fun hk => by have := hd2.ltF _ hk; omega), hWz]
  try simp (maxDischargeDepth := 8) [↓bindV_some, ↓bindU_some, ↓condE_true, ↓condE_false, ↓pickE_true, ↓pickE_false, ↓pickE_or, ↓pickE_and, ↓grdE_true, ↓grdE_false, ↓grdE_tf, ↓grdE_ft, ↓grdE_undef, ↓nilE_pt, ↓thenK_normal, ↓thenK_exit, ↓thenK_ret, ↓thenK_goto, ↓thenK_panic, ↓blockK_exit, ↓blockK_normal, ↓blockK_ret, ↓blockK_goto, ↓blockK_panic, ↓loopK_normal, ↓loopK_exit, ↓loopK_ret, ↓loopK_goto, ↓loopK_panic, ↓topK_ret, ↓topK_normal, ↓topK_panic, ↓resVs_nil, ↓resVs_tmp, ↓resVs_cell, tup_one, tup_nil, tup_two, put_get, argE_get, ↓takeE_def, ↓heldE_nil, ↓heldE_cons, qNil_pt, qPick_bool, qGrd_bool, qGrd_undef, ↓letK_def, pBox_eq, pBin_add, pBin_sub, pBin_mul, pBin_eql, pBin_neq, pBin_lss, pBin_leq, pBin_gtr, pBin_geq, pUn_not, pUn_neg, eqB, neB, eqS, neS, pExtract0, pExtract1, pExtract2, max_int, min_int, sz_nw, sz_wr, sz_drew, mm_nw, fz_nw, mm_drew, fz_drew, fz_wr, sz_mkS, mm_mkS, fz_mkS, Fr.mkS, mm_wr_same, mm_wr_ne, wr_wr, bs_oneT, splice_full, gt_zero, gt_succ, gt_set, gt_bs, byte_eq0, byte_eq1, byte_n0, byte_n1, Fr.refl, Fr.nw, Fr.wr, Fr.drew, hlv]
  refine (refNeed_spec (n := B.length) (by omega)).call ?_
  rintro _ w4 ⟨rfl, f4⟩
  have hrem : ∀ w, pBin P .rem 3 true (i64 cd.toNat) (Value.int .i64 60) w = some (i64 ((cd.toNat % 60 : Nat) : Int), w) := fun w => by
    rw [pBin_rem (by omega)]
    congr 3
  have hx60 : cd.toNat % 60 < 60 := Nat.mod_lt _ (by omega)
  have hcv : ∀ w, pConv P 5 3 (bv cd) w = some (i64 cd.toNat, w) := fun w => by
    have := cd.toNat_lt
    have hwx : IntKind.i64.wrap (cd.toNat : Int) = (cd.toNat : Int) := wrap64 (by omega) (by omega)
    try simp (maxDischargeDepth := 8) [↓bindV_some, ↓bindU_some, ↓condE_true, ↓condE_false, ↓pickE_true, ↓pickE_false, ↓pickE_or, ↓pickE_and, ↓grdE_true, ↓grdE_false, ↓grdE_tf, ↓grdE_ft, ↓grdE_undef, ↓nilE_pt, ↓thenK_normal, ↓thenK_exit, ↓thenK_ret, ↓thenK_goto, ↓thenK_panic, ↓blockK_exit, ↓blockK_normal, ↓blockK_ret, ↓blockK_goto, ↓blockK_panic, ↓loopK_normal, ↓loopK_exit, ↓loopK_ret, ↓loopK_goto, ↓loopK_panic, ↓topK_ret, ↓topK_normal, ↓topK_panic, ↓resVs_nil, ↓resVs_tmp, ↓resVs_cell, tup_one, tup_nil, tup_two, put_get, argE_get, ↓takeE_def, ↓heldE_nil, ↓heldE_cons, qNil_pt, qPick_bool, qGrd_bool, qGrd_undef, ↓letK_def, pBox_eq, pBin_add, pBin_sub, pBin_mul, pBin_eql, pBin_neq, pBin_lss, pBin_leq, pBin_gtr, pBin_geq, pUn_not, pUn_neg, eqB, neB, eqS, neS, pExtract0, pExtract1, pExtract2, max_int, min_int, sz_nw, sz_wr, sz_drew, mm_nw, fz_nw, mm_drew, fz_drew, fz_wr, sz_mkS, mm_mkS, fz_mkS, Fr.mkS, mm_wr_same, mm_wr_ne, wr_wr, bs_oneT, splice_full, gt_zero, gt_succ, gt_set, gt_bs, byte_eq0, byte_eq1, byte_n0, byte_n1, Fr.refl, Fr.nw, Fr.wr, Fr.drew, bv, hwx]
  generalize cd.toNat % 60 = q at *
  obtain ⟨k, hk⟩ : ∃ k : Nat, k = 1 + q := ⟨_, rfl⟩
  have hwq : IntKind.i64.wrap (1 + (q : Int)) = (k : Int) := by rw [wrap64 (by omega) (by omega)]; omega
  try simp (maxDischargeDepth := 8) [↓bindV_some, ↓bindU_some, ↓condE_true, ↓condE_false, ↓pickE_true, ↓pickE_false, ↓pickE_or, ↓pickE_and, ↓grdE_true, ↓grdE_false, ↓grdE_tf, ↓grdE_ft, ↓grdE_undef, ↓nilE_pt, ↓thenK_normal, ↓thenK_exit, ↓thenK_ret, ↓thenK_goto, ↓thenK_panic, ↓blockK_exit, ↓blockK_normal, ↓blockK_ret, ↓blockK_goto, ↓blockK_panic, ↓loopK_normal, ↓loopK_exit, ↓loopK_ret, ↓loopK_goto, ↓loopK_panic, ↓topK_ret, ↓topK_normal, ↓topK_panic, ↓resVs_nil, ↓resVs_tmp, ↓resVs_cell, tup_one, tup_nil, tup_two, put_get, argE_get, ↓takeE_def, ↓heldE_nil, ↓heldE_cons, qNil_pt, qPick_bool, qGrd_bool, qGrd_undef, ↓letK_def, pBox_eq, pBin_add, pBin_sub, pBin_mul, pBin_eql, pBin_neq, pBin_lss, pBin_leq, pBin_gtr, pBin_geq, pUn_not, pUn_neg, eqB, neB, eqS, neS, pExtract0, pExtract1, pExtract2, max_int, min_int, sz_nw, sz_wr, sz_drew, mm_nw, fz_nw, mm_drew, fz_drew, fz_wr, sz_mkS, mm_mkS, fz_mkS, Fr.mkS, mm_wr_same, mm_wr_ne, wr_wr, bs_oneT, splice_full, gt_zero, gt_succ, gt_set, gt_bs, byte_eq0, byte_eq1, byte_n0, byte_n1, Fr.refl, Fr.nw, Fr.wr, Fr.drew, hcv, hrem, hwq]
  have hd4 := hd3.fr0 f4
  refine (break_spec (n := (k : Int)) hd4 (by omega)).call ?_
  rintro _ w5 ⟨hd5, f5⟩
  have g5 : Fr [] w w5 := (g3.trans0 f4).trans f5 (fun k hk => .inr (hF1 k hk).1)
  have hro5 := (hro3.fr f4 (by simp)).fr f5 hrF
  have hm5 : mm w5 (sz w2) = [i64 0, i64 80] := by rw [f5.mm (f4.lt (lt_of_fz hz3)) (fun hk => (hF1 _ hk).2 rfl), f4.mm (lt_of_fz hz3) (by simp), hm3]
  have hz5 : fz w5 (sz w2) = false := by rw [f5.fz (f4.lt (lt_of_fz hz3)) (fun hk => (hF1 _ hk).2 rfl), f4.fz (lt_of_fz hz3) (by simp), hz3]
  have hvF : 0 < B.length → ∀ k, v.ownBlock = some k → k ∉ F1 := fun h0 k hk hkF => by
    have := rd_old h h0 hk
    have := (hF1 k hkF).1
    omega
  have hbw : (breakD D1 (k : Int)).writes = D1.writes := rfl
  have hbp : (breakD D1 (k : Int)).pend.length = 0 := by show D1.pend.length = 0; rw [hp1]; rfl
  have hbd : (breakD D1 (k : Int)).down = false := hc1.down
  have hbrk : BrkN 80 (breakD D1 (k : Int)) k := ⟨hc1.down, by show max (k : Int) 0 = k; omega, by omega, hc1.len⟩
  have hnb : need B.length ≤ 50 := by unfold need; omega
  obtain ⟨a1, a2, a3, a4⟩ := app_brk (x := 0 + 0) (B := B) (need B.length) 0 _ k hbrk (by omega)
  rw [hbp] at a3
  rw [hbw] at a4
  have hap := append_spec (fr := 0) (ln := 80) (at_ := 0) (B := B) hro5 hd5 hrF (h.fr0 g5) hvF (by omega) (by omega) (by omega) (by rw [hbp]; omega) (by rw [hbw]; omega)
  have hG : appM 0 80 0 B (breakD D1 (k : Int)) = ((appGo (0 + 0) B (need B.length) 0 (breakD D1 (k : Int))).1, (appGo (0 + 0) B (need B.length) 0 (breakD D1 (k : Int))).2, if (appGo (0 + 0) B (need B.length) 0 (breakD D1 (k : Int))).2 = 0 then 0 + need B.length else 0) := by
    unfold appM
    rw [if_neg (by simp [hbd]), if_neg (by omega), if_neg (by omega)]
  rw [hG] at hap
  generalize appGo (0 + 0) B (need B.length) 0 (breakD D1 (k : Int)) = G at *
  obtain ⟨D3, code⟩ := G
  simp only at a1 a2 a3 a4 hap
  try simp (maxDischargeDepth := 8) [↓bindV_some, ↓bindU_some, ↓condE_true, ↓condE_false, ↓pickE_true, ↓pickE_false, ↓pickE_or, ↓pickE_and, ↓grdE_true, ↓grdE_false, ↓grdE_tf, ↓grdE_ft, ↓grdE_undef, ↓nilE_pt, ↓thenK_normal, ↓thenK_exit, ↓thenK_ret, ↓thenK_goto, ↓thenK_panic, ↓blockK_exit, ↓blockK_normal, ↓blockK_ret, ↓blockK_goto, ↓blockK_panic, ↓loopK_normal, ↓loopK_exit, ↓loopK_ret, ↓loopK_goto, ↓loopK_panic, ↓topK_ret, ↓topK_normal, ↓topK_panic, ↓resVs_nil, ↓resVs_tmp, ↓resVs_cell, tup_one, tup_nil, tup_two, put_get, argE_get, ↓takeE_def, ↓heldE_nil, ↓heldE_cons, qNil_pt, qPick_bool, qGrd_bool, qGrd_undef, ↓letK_def, pBox_eq, pBin_add, pBin_sub, pBin_mul, pBin_eql, pBin_neq, pBin_lss, pBin_leq, pBin_gtr, pBin_geq, pUn_not, pUn_neg, eqB, neB, eqS, neS, pExtract0, pExtract1, pExtract2, max_int, min_int, sz_nw, sz_wr, sz_drew, mm_nw, fz_nw, mm_drew, fz_drew, fz_wr, sz_mkS, mm_mkS, fz_mkS, Fr.mkS, mm_wr_same, mm_wr_ne, wr_wr, bs_oneT, splice_full, gt_zero, gt_succ, gt_set, gt_bs, byte_eq0, byte_eq1, byte_n0, byte_n1, Fr.refl, Fr.nw, Fr.wr, Fr.drew]
  refine hap.call ?_
  rintro _ w6 ⟨F3, hA⟩
  have hA1 := hA.val
  simp only at hA1
  subst hA1
  have g6 : Fr [] w w6 := g5.trans hA.fr' (fun k hk => .inr (by
    rcases List.mem_cons.1 hk with h | h
    · have := gW.size; omega
    · exact (hF1 k h).1))
  by_cases hkn : need B.length < k
  · have hcode := a1 hkn
    subst hcode
    have d1 : (((need B.length : Nat) : Int) < (k : Int)) = True := eq_true (by omega)
    have d2 : (need B.length < k) = True := eq_true hkn
    try simp (maxDischargeDepth := 8) [↓bindV_some, ↓bindU_some, ↓condE_true, ↓condE_false, ↓pickE_true, ↓pickE_false, ↓pickE_or, ↓pickE_and, ↓grdE_true, ↓grdE_false, ↓grdE_tf, ↓grdE_ft, ↓grdE_undef, ↓nilE_pt, ↓thenK_normal, ↓thenK_exit, ↓thenK_ret, ↓thenK_goto, ↓thenK_panic, ↓blockK_exit, ↓blockK_normal, ↓blockK_ret, ↓blockK_goto, ↓blockK_panic, ↓loopK_normal, ↓loopK_exit, ↓loopK_ret, ↓loopK_goto, ↓loopK_panic, ↓topK_ret, ↓topK_normal, ↓topK_panic, ↓resVs_nil, ↓resVs_tmp, ↓resVs_cell, tup_one, tup_nil, tup_two, put_get, argE_get, ↓takeE_def, ↓heldE_nil, ↓heldE_cons, qNil_pt, qPick_bool, qGrd_bool, qGrd_undef, ↓letK_def, pBox_eq, pBin_add, pBin_sub, pBin_mul, pBin_eql, pBin_neq, pBin_lss, pBin_leq, pBin_gtr, pBin_geq, pUn_not, pUn_neg, eqB, neB, eqS, neS, pExtract0, pExtract1, pExtract2, max_int, min_int, sz_nw, sz_wr, sz_drew, mm_nw, fz_nw, mm_drew, fz_drew, fz_wr, sz_mkS, mm_mkS, fz_mkS, Fr.mkS, mm_wr_same, mm_wr_ne, wr_wr, bs_oneT, splice_full, gt_zero, gt_succ, gt_set, gt_bs, byte_eq0, byte_eq1, byte_n0, byte_n1, Fr.refl, Fr.nw, Fr.wr, Fr.drew, d1, d2]
    exact g6
  · obtain ⟨hcode, hdn⟩ := a2 (by omega)
    subst hcode
    have d1 : (((need B.length : Nat) : Int) < (k : Int)) = False := eq_false (by omega)
    have d2 : (need B.length < k) = False := eq_false hkn
    have hne : sz w2 ∉ r :: F1 := fun hk => by
      rcases List.mem_cons.1 hk with h | h
      · omega
      · exact (hF1 _ h).2 rfl
    have hz6 : fz w6 (sz w2) = false := by rw [hA.fr'.fz (lt_of_fz hz5) hne, hz5]
    have hm6 : mm w6 (sz w2) = [i64 0, i64 80] := by rw [hA.fr'.mm (lt_of_fz hz5) hne, hm5]
    have hs6 := lt_of_fz hz6
    have hd6 : IsD w6 b D3 F3 := hA.isd
    have hro6 := hA.roll
    simp only at hro6
    try simp (maxDischargeDepth := 8) [↓bindV_some, ↓bindU_some, ↓condE_true, ↓condE_false, ↓pickE_true, ↓pickE_false, ↓pickE_or, ↓pickE_and, ↓grdE_true, ↓grdE_false, ↓grdE_tf, ↓grdE_ft, ↓grdE_undef, ↓nilE_pt, ↓thenK_normal, ↓thenK_exit, ↓thenK_ret, ↓thenK_goto, ↓thenK_panic, ↓blockK_exit, ↓blockK_normal, ↓blockK_ret, ↓blockK_goto, ↓blockK_panic, ↓loopK_normal, ↓loopK_exit, ↓loopK_ret, ↓loopK_goto, ↓loopK_panic, ↓topK_ret, ↓topK_normal, ↓topK_panic, ↓resVs_nil, ↓resVs_tmp, ↓resVs_cell, tup_one, tup_nil, tup_two, put_get, argE_get, ↓takeE_def, ↓heldE_nil, ↓heldE_cons, qNil_pt, qPick_bool, qGrd_bool, qGrd_undef, ↓letK_def, pBox_eq, pBin_add, pBin_sub, pBin_mul, pBin_eql, pBin_neq, pBin_lss, pBin_leq, pBin_gtr, pBin_geq, pUn_not, pUn_neg, eqB, neB, eqS, neS, pExtract0, pExtract1, pExtract2, max_int, min_int, sz_nw, sz_wr, sz_drew, mm_nw, fz_nw, mm_drew, fz_drew, fz_wr, sz_mkS, mm_mkS, fz_mkS, Fr.mkS, mm_wr_same, mm_wr_ne, wr_wr, bs_oneT, splice_full, gt_zero, gt_succ, gt_set, gt_bs, byte_eq0, byte_eq1, byte_n0, byte_n1, Fr.refl, Fr.nw, Fr.wr, Fr.drew, d1, d2, hm6, hs6]
    have hs1 : Ret P 48 #[pt b 0, .agg #[i64 0, i64 80]] w6 _ := scan_spec (fr := 0) (ln := 80) hd6
    refine hs1.call ?_
    rintro x7 w7 ⟨f7, e7, _, _⟩
    rw [e7 hdn]
    have hs7 := f7.lt hs6
    have hm7 : mm w7 (sz w2) = [i64 0, i64 80] := by rw [f7.mm hs6 (by simp), hm6]
    try simp (maxDischargeDepth := 8) [↓bindV_some, ↓bindU_some, ↓condE_true, ↓condE_false, ↓pickE_true, ↓pickE_false, ↓pickE_or, ↓pickE_and, ↓grdE_true, ↓grdE_false, ↓grdE_tf, ↓grdE_ft, ↓grdE_undef, ↓nilE_pt, ↓thenK_normal, ↓thenK_exit, ↓thenK_ret, ↓thenK_goto, ↓thenK_panic, ↓blockK_exit, ↓blockK_normal, ↓blockK_ret, ↓blockK_goto, ↓blockK_panic, ↓loopK_normal, ↓loopK_exit, ↓loopK_ret, ↓loopK_goto, ↓loopK_panic, ↓topK_ret, ↓topK_normal, ↓topK_panic, ↓resVs_nil, ↓resVs_tmp, ↓resVs_cell, tup_one, tup_nil, tup_two, put_get, argE_get, ↓takeE_def, ↓heldE_nil, ↓heldE_cons, qNil_pt, qPick_bool, qGrd_bool, qGrd_undef, ↓letK_def, pBox_eq, pBin_add, pBin_sub, pBin_mul, pBin_eql, pBin_neq, pBin_lss, pBin_leq, pBin_gtr, pBin_geq, pUn_not, pUn_neg, eqB, neB, eqS, neS, pExtract0, pExtract1, pExtract2, max_int, min_int, sz_nw, sz_wr, sz_drew, mm_nw, fz_nw, mm_drew, fz_drew, fz_wr, sz_mkS, mm_mkS, fz_mkS, Fr.mkS, mm_wr_same, mm_wr_ne, wr_wr, bs_oneT, splice_full, gt_zero, gt_succ, gt_set, gt_bs, byte_eq0, byte_eq1, byte_n0, byte_n1, Fr.refl, Fr.nw, Fr.wr, Fr.drew, hm7, hs7]
    have hs2 : Ret P 45 #[pt b 0, .agg #[i64 0, i64 80]] w7 _ := open_rspec (fr := 0) (ln := 80) (hd6.fr0 f7) (by omega) (by omega) (fun _ => by omega) (by omega) (by omega)
    refine hs2.call ?_
    rintro x8 w8 ⟨F8, hO8⟩
    have hop8 : openM D3 0 80 = (D3, 14) := by unfold openM; rw [if_pos hdn]
    have hx8 := hO8.bad (by rw [hop8]; simp)
    rw [hop8] at hx8
    subst hx8
    have b25 : ∀ w, pBuild P 25 [] w = some (sec (zb 64), w) := fun w => by rw [bd25 (by simp)]; rfl
    try simp (maxDischargeDepth := 8) [↓bindV_some, ↓bindU_some, ↓condE_true, ↓condE_false, ↓pickE_true, ↓pickE_false, ↓pickE_or, ↓pickE_and, ↓grdE_true, ↓grdE_false, ↓grdE_tf, ↓grdE_ft, ↓grdE_undef, ↓nilE_pt, ↓thenK_normal, ↓thenK_exit, ↓thenK_ret, ↓thenK_goto, ↓thenK_panic, ↓blockK_exit, ↓blockK_normal, ↓blockK_ret, ↓blockK_goto, ↓blockK_panic, ↓loopK_normal, ↓loopK_exit, ↓loopK_ret, ↓loopK_goto, ↓loopK_panic, ↓topK_ret, ↓topK_normal, ↓topK_panic, ↓resVs_nil, ↓resVs_tmp, ↓resVs_cell, tup_one, tup_nil, tup_two, put_get, argE_get, ↓takeE_def, ↓heldE_nil, ↓heldE_cons, qNil_pt, qPick_bool, qGrd_bool, qGrd_undef, ↓letK_def, pBox_eq, pBin_add, pBin_sub, pBin_mul, pBin_eql, pBin_neq, pBin_lss, pBin_leq, pBin_gtr, pBin_geq, pUn_not, pUn_neg, eqB, neB, eqS, neS, pExtract0, pExtract1, pExtract2, max_int, min_int, sz_nw, sz_wr, sz_drew, mm_nw, fz_nw, mm_drew, fz_drew, fz_wr, sz_mkS, mm_mkS, fz_mkS, Fr.mkS, mm_wr_same, mm_wr_ne, wr_wr, bs_oneT, splice_full, gt_zero, gt_succ, gt_set, gt_bs, byte_eq0, byte_eq1, byte_n0, byte_n1, Fr.refl, Fr.nw, Fr.wr, Fr.drew, b25, -bd25]
    refine (refOpen_spec (s := zb 64) (by simp)).call ?_
    rintro _ w9 ⟨f9, x9, rfl, _, hx9⟩
    have hd8 : IsD w8 b D3 F8 := by have := hO8.isd; rw [hop8] at this; exact this
    have hg8 := hO8.grow
    have hs2w5 : sz w2 < sz w5 := lt_of_fz hz5
    have hF3 : ∀ k ∈ F3, sz w ≤ k ∧ k ≠ sz w2 := fun k hk => by
      rcases hA.new k hk with h | h
      · exact hF1 k h
      · have := g5.size; omega
    have hF8 : ∀ k ∈ F8, sz w ≤ k ∧ k ≠ sz w2 := fun k hk => by
      rcases hg8.new k hk with h | h
      · exact hF3 k h
      · have := (g6.trans0 f7).size; omega
    have g8 : Fr [] w w8 := (g6.trans0 f7).trans hg8.fr (fun k hk => .inr (hF3 k hk).1)
    have g9 := g8.trans0 f9
    have hro9 := ((hro6.fr f7 (by simp)).fr hg8.fr hA.out).fr f9 (by simp)
    have hrF8 : r ∉ F8 := fun hk => by
      rcases hg8.new r hk with h | h
      · exact hA.out h
      · have := hro6.lt; have := f7.size; omega
    have hz9 : fz w9 (sz w2) = false := by rw [f9.fz (hg8.fr.lt hs7) (by simp), hg8.fr.fz hs7 (fun hk => (hF3 _ hk).2 rfl), f7.fz hs6 (by simp), hz6]
    have hm9 : mm w9 (sz w2) = [i64 0, i64 80] := by rw [f9.mm (hg8.fr.lt hs7) (by simp), hg8.fr.mm hs7 (fun hk => (hF3 _ hk).2 rfl), hm7]
    have hvF8 : 0 < B.length → ∀ k, v.ownBlock = some k → k ∉ F8 := fun h0 k hk hkF => by
      have := rd_old h h0 hk
      have := (hF8 k hkF).1
      omega
    have hcode0 : (14 : Int) = 0 ↔ False := by simp
    simp only [show ((14 : Int) = 0) = False from eq_false (by omega), if_false] at hro9
    have hap9 := append_spec (fr := 0) (ln := 80) (at_ := 0) (B := B) hro9 (hd8.fr0 f9) hrF8 (h.fr0 g9) hvF8 (by omega) (by omega) (by omega) (by omega) (by omega)
    have hG9 : appM 0 80 0 B D3 = (D3, 14, 0) := by unfold appM; rw [if_pos hdn]
    rw [hG9] at hap9
    try simp (maxDischargeDepth := 8) [↓bindV_some, ↓bindU_some, ↓condE_true, ↓condE_false, ↓pickE_true, ↓pickE_false, ↓pickE_or, ↓pickE_and, ↓grdE_true, ↓grdE_false, ↓grdE_tf, ↓grdE_ft, ↓grdE_undef, ↓nilE_pt, ↓thenK_normal, ↓thenK_exit, ↓thenK_ret, ↓thenK_goto, ↓thenK_panic, ↓blockK_exit, ↓blockK_normal, ↓blockK_ret, ↓blockK_goto, ↓blockK_panic, ↓loopK_normal, ↓loopK_exit, ↓loopK_ret, ↓loopK_goto, ↓loopK_panic, ↓topK_ret, ↓topK_normal, ↓topK_panic, ↓resVs_nil, ↓resVs_tmp, ↓resVs_cell, tup_one, tup_nil, tup_two, put_get, argE_get, ↓takeE_def, ↓heldE_nil, ↓heldE_cons, qNil_pt, qPick_bool, qGrd_bool, qGrd_undef, ↓letK_def, pBox_eq, pBin_add, pBin_sub, pBin_mul, pBin_eql, pBin_neq, pBin_lss, pBin_leq, pBin_gtr, pBin_geq, pUn_not, pUn_neg, eqB, neB, eqS, neS, pExtract0, pExtract1, pExtract2, max_int, min_int, sz_nw, sz_wr, sz_drew, mm_nw, fz_nw, mm_drew, fz_drew, fz_wr, sz_mkS, mm_mkS, fz_mkS, Fr.mkS, mm_wr_same, mm_wr_ne, wr_wr, bs_oneT, splice_full, gt_zero, gt_succ, gt_set, gt_bs, byte_eq0, byte_eq1, byte_n0, byte_n1, Fr.refl, Fr.nw, Fr.wr, Fr.drew]
    refine hap9.call ?_
    rintro _ w10 ⟨F10, hA10⟩
    have hA11 := hA10.val
    simp only at hA11
    subst hA11
    have hro10 : IsRoll w10 r b ((0 : Nat) : Int) ((80 : Nat) : Int) ((0 : Nat) : Int) := hA10.roll
    have hd10 : IsD w10 b D3 F10 := hA10.isd
    have hF10 : ∀ k ∈ F10, sz w ≤ k ∧ k ≠ sz w2 := fun k hk => by
      rcases hA10.new k hk with h | h
      · exact hF8 k h
      · have := g9.size; have := lt_of_fz hz9; omega
    have hne8 : sz w2 ∉ r :: F8 := fun hk => by
      rcases List.mem_cons.1 hk with h | h
      · omega
      · exact (hF8 _ h).2 rfl
    have hz10 : fz w10 (sz w2) = false := by rw [hA10.fr'.fz (lt_of_fz hz9) hne8, hz9]
    have hm10 : mm w10 (sz w2) = [i64 0, i64 80] := by rw [hA10.fr'.mm (lt_of_fz hz9) hne8, hm9]
    have g10 : Fr [] w w10 := g9.trans hA10.fr' (fun k hk => .inr (by
      rcases List.mem_cons.1 hk with h | h
      · have := gW.size; omega
      · exact (hF8 k h).1))
    try simp (maxDischargeDepth := 8) [↓bindV_some, ↓bindU_some, ↓condE_true, ↓condE_false, ↓pickE_true, ↓pickE_false, ↓pickE_or, ↓pickE_and, ↓grdE_true, ↓grdE_false, ↓grdE_tf, ↓grdE_ft, ↓grdE_undef, ↓nilE_pt, ↓thenK_normal, ↓thenK_exit, ↓thenK_ret, ↓thenK_goto, ↓thenK_panic, ↓blockK_exit, ↓blockK_normal, ↓blockK_ret, ↓blockK_goto, ↓blockK_panic, ↓loopK_normal, ↓loopK_exit, ↓loopK_ret, ↓loopK_goto, ↓loopK_panic, ↓topK_ret, ↓topK_normal, ↓topK_panic, ↓resVs_nil, ↓resVs_tmp, ↓resVs_cell, tup_one, tup_nil, tup_two, put_get, argE_get, ↓takeE_def, ↓heldE_nil, ↓heldE_cons, qNil_pt, qPick_bool, qGrd_bool, qGrd_undef, ↓letK_def, pBox_eq, pBin_add, pBin_sub, pBin_mul, pBin_eql, pBin_neq, pBin_lss, pBin_leq, pBin_gtr, pBin_geq, pUn_not, pUn_neg, eqB, neB, eqS, neS, pExtract0, pExtract1, pExtract2, max_int, min_int, sz_nw, sz_wr, sz_drew, mm_nw, fz_nw, mm_drew, fz_drew, fz_wr, sz_mkS, mm_mkS, fz_mkS, Fr.mkS, mm_wr_same, mm_wr_ne, wr_wr, bs_oneT, splice_full, gt_zero, gt_succ, gt_set, gt_bs, byte_eq0, byte_eq1, byte_n0, byte_n1, Fr.refl, Fr.nw, Fr.wr, Fr.drew]
    refine (rsyncR_spec hro10 hd10).call ?_
    rintro _ w11 ⟨rfl, hd11, f11⟩
    rw [if_pos hdn]
    have hne10 : sz w2 ∉ F10 := fun hk => (hF10 _ hk).2 rfl
    have hm11 : mm w11 (sz w2) = [i64 0, i64 80] := by rw [f11.mm (lt_of_fz hz10) hne10, hm10]
    have hs11 := f11.lt (lt_of_fz hz10)
    have g11 : Fr [] w w11 := g10.trans f11 (fun k hk => .inr (hF10 k hk).1)
    have hsy : syncD D3 = D3 := by unfold syncD; rw [if_pos hdn]
    rw [hsy] at hd11
    try simp (maxDischargeDepth := 8) [↓bindV_some, ↓bindU_some, ↓condE_true, ↓condE_false, ↓pickE_true, ↓pickE_false, ↓pickE_or, ↓pickE_and, ↓grdE_true, ↓grdE_false, ↓grdE_tf, ↓grdE_ft, ↓grdE_undef, ↓nilE_pt, ↓thenK_normal, ↓thenK_exit, ↓thenK_ret, ↓thenK_goto, ↓thenK_panic, ↓blockK_exit, ↓blockK_normal, ↓blockK_ret, ↓blockK_goto, ↓blockK_panic, ↓loopK_normal, ↓loopK_exit, ↓loopK_ret, ↓loopK_goto, ↓loopK_panic, ↓topK_ret, ↓topK_normal, ↓topK_panic, ↓resVs_nil, ↓resVs_tmp, ↓resVs_cell, tup_one, tup_nil, tup_two, put_get, argE_get, ↓takeE_def, ↓heldE_nil, ↓heldE_cons, qNil_pt, qPick_bool, qGrd_bool, qGrd_undef, ↓letK_def, pBox_eq, pBin_add, pBin_sub, pBin_mul, pBin_eql, pBin_neq, pBin_lss, pBin_leq, pBin_gtr, pBin_geq, pUn_not, pUn_neg, eqB, neB, eqS, neS, pExtract0, pExtract1, pExtract2, max_int, min_int, sz_nw, sz_wr, sz_drew, mm_nw, fz_nw, mm_drew, fz_drew, fz_wr, sz_mkS, mm_mkS, fz_mkS, Fr.mkS, mm_wr_same, mm_wr_ne, wr_wr, bs_oneT, splice_full, gt_zero, gt_succ, gt_set, gt_bs, byte_eq0, byte_eq1, byte_n0, byte_n1, Fr.refl, Fr.nw, Fr.wr, Fr.drew, hm11, hs11]
    have hcl : Ret P 50 #[pt b 0, .agg #[i64 0, i64 80]] w11 _ := clear_spec (fr := 0) (ln := 80) hd11 (by omega) (by omega) (fun _ => by omega) (by omega) (by omega)
    refine hcl.call ?_
    rintro _ w12 ⟨rfl, F12, hd12, hg12⟩
    have hclm : clearM D3 0 80 = (D3, 14) := by unfold clearM; rw [if_pos hdn]
    rw [hclm]
    have hwz : isWhole (zb 64) = False := eq_false whole_zb
    try simp (maxDischargeDepth := 8) [↓bindV_some, ↓bindU_some, ↓condE_true, ↓condE_false, ↓pickE_true, ↓pickE_false, ↓pickE_or, ↓pickE_and, ↓grdE_true, ↓grdE_false, ↓grdE_tf, ↓grdE_ft, ↓grdE_undef, ↓nilE_pt, ↓thenK_normal, ↓thenK_exit, ↓thenK_ret, ↓thenK_goto, ↓thenK_panic, ↓blockK_exit, ↓blockK_normal, ↓blockK_ret, ↓blockK_goto, ↓blockK_panic, ↓loopK_normal, ↓loopK_exit, ↓loopK_ret, ↓loopK_goto, ↓loopK_panic, ↓topK_ret, ↓topK_normal, ↓topK_panic, ↓resVs_nil, ↓resVs_tmp, ↓resVs_cell, tup_one, tup_nil, tup_two, put_get, argE_get, ↓takeE_def, ↓heldE_nil, ↓heldE_cons, qNil_pt, qPick_bool, qGrd_bool, qGrd_undef, ↓letK_def, pBox_eq, pBin_add, pBin_sub, pBin_mul, pBin_eql, pBin_neq, pBin_lss, pBin_leq, pBin_gtr, pBin_geq, pUn_not, pUn_neg, eqB, neB, eqS, neS, pExtract0, pExtract1, pExtract2, max_int, min_int, sz_nw, sz_wr, sz_drew, mm_nw, fz_nw, mm_drew, fz_drew, fz_wr, sz_mkS, mm_mkS, fz_mkS, Fr.mkS, mm_wr_same, mm_wr_ne, wr_wr, bs_oneT, splice_full, gt_zero, gt_succ, gt_set, gt_bs, byte_eq0, byte_eq1, byte_n0, byte_n1, Fr.refl, Fr.nw, Fr.wr, Fr.drew, hwz]
    exact g11.trans hg12.fr (fun k hk => .inr (hF10 k hk).1)
end Go.Proofs.Yticncfkpfpkfoaa
