/- What the laws' 'speaks' says of package roll is so (f44). -/
import Derived.Test.YticncfkpfpkfoaaRollQ
import Derived.Test.YticncfkpfpkfoaaRollG
import Derived.Test.YticncfkpfpkfoaaWRollS
set_option linter.unusedVariables false
set_option linter.unusedSimpArgs false
namespace Go.Proofs.Yticncfkpfpkfoaa
open Go

theorem b65 {a c : Int} {w : World} : pBuild P 65 [(0, i64 a), (1, i64 c)] w = some (.agg #[i64 a, i64 c], w) := by rw [bf65 (by simp)]; rfl
theorem need61 : need 61 = 2 := by decide
theorem map_nil_of {α β : Type} {f : α → β} {l : List α} (h : l.map f = []) : l = [] := by simpa using h
theorem speaks19 {w : World} : Ret P 44 #[] w fun v w' => v = .bool true ∧ Fr [] w w' := by
  refine F44ok ?_
  unfold F44
  have hnew : Ret P 27 #[.int .i64 4] w _ := new_spec (w := w) (n := 4) (by omega) (by omega)
  refine hnew.call ?_
  rintro _ w1 ⟨b, F, rfl, hd1, f1, hF⟩
  have b65' : ∀ w, pBuild P 65 [(0, Value.int .i64 1), (1, Value.int .i64 3)] w = some (.agg #[.int .i64 1, .int .i64 3], w) := fun w => b65
  try simp (maxDischargeDepth := 8) [↓bindV_some, ↓bindU_some, ↓condE_true, ↓condE_false, ↓pickE_true, ↓pickE_false, ↓pickE_or, ↓pickE_and, ↓grdE_true, ↓grdE_false, ↓grdE_tf, ↓grdE_ft, ↓grdE_undef, ↓nilE_pt, ↓thenK_normal, ↓thenK_exit, ↓thenK_ret, ↓thenK_goto, ↓thenK_panic, ↓blockK_exit, ↓blockK_normal, ↓blockK_ret, ↓blockK_goto, ↓blockK_panic, ↓loopK_normal, ↓loopK_exit, ↓loopK_ret, ↓loopK_goto, ↓loopK_panic, ↓topK_ret, ↓topK_normal, ↓topK_panic, ↓resVs_nil, ↓resVs_tmp, ↓resVs_cell, tup_one, tup_nil, tup_two, put_get, argE_get, ↓takeE_def, ↓heldE_nil, ↓heldE_cons, qNil_pt, qPick_bool, qGrd_bool, qGrd_undef, ↓letK_def, pBox_eq, pBin_add, pBin_sub, pBin_mul, pBin_eql, pBin_neq, pBin_lss, pBin_leq, pBin_gtr, pBin_geq, pUn_not, pUn_neg, eqB, neB, eqS, neS, pExtract0, pExtract1, pExtract2, max_int, min_int, sz_nw, sz_wr, sz_drew, mm_nw, fz_nw, mm_drew, fz_drew, fz_wr, sz_mkS, mm_mkS, fz_mkS, Fr.mkS, mm_wr_same, mm_wr_ne, wr_wr, bs_oneT, splice_full, gt_zero, gt_succ, gt_set, gt_bs, byte_eq0, byte_eq1, byte_n0, byte_n1, Fr.refl, Fr.nw, Fr.wr, Fr.drew, b65', -bf65]
  have hlaid0 : Laid (newD 4) 1 3 [] 3 := Laid.new (fun i hi => view_new (by omega))
  have hsc0 := hlaid0.scan (by simp)
  have hat0 : openAt (newD 4) ((1 : Nat) : Int) ((3 : Nat) : Int) = 0 := by
    unfold openAt
    simp only [Int.toNat_natCast]
    rw [hsc0]; rfl
  obtain ⟨D1, ho1, hc1, hp1, hv1, hw1, _⟩ := open_calm (N := 4) (fr := 1) (ln := 3) (new_calm 4) rfl (by omega) (by omega)
  have hlaid1 : Laid D1 1 3 [] 3 := Laid.new (fun i hi => by
    rw [hv1]
    split
    · rfl
    · exact view_new (by omega))
  have hop : Ret P 45 #[pt b 0, .agg #[.int .i64 1, .int .i64 3]] w1 _ := open_rspec (fr := ((1 : Nat) : Int)) (ln := ((3 : Nat) : Int)) hd1 (by omega) (by omega) (fun _ => by omega) (by simp [newD]) (by simp [newD])
  refine hop.call ?_
  rintro _ w2 ⟨F1, hO⟩
  obtain ⟨r, ov, Lp, rfl, hro, hrw, hrF, hE, hLp, _, _⟩ := hO.good (by rw [ho1])
  have hd2 : IsD w2 b D1 F1 := by have := hO.isd; rw [ho1] at this; exact this
  have hg2 := hO.grow
  rw [hat0] at hro
  simp only [Int.toNat_natCast] at hLp
  rw [hsc0] at hLp
  have hLp0 := map_nil_of hLp
  subst hLp0
  obtain ⟨oa, oc, hov⟩ := own_val hE.own
  have hlo : ∀ w, pBuiltin P .len #[67] 3 [ov] w = some (i64 0, w) := fun w => by rw [hov]; exact len67
  try simp (maxDischargeDepth := 8) [↓bindV_some, ↓bindU_some, ↓condE_true, ↓condE_false, ↓pickE_true, ↓pickE_false, ↓pickE_or, ↓pickE_and, ↓grdE_true, ↓grdE_false, ↓grdE_tf, ↓grdE_ft, ↓grdE_undef, ↓nilE_pt, ↓thenK_normal, ↓thenK_exit, ↓thenK_ret, ↓thenK_goto, ↓thenK_panic, ↓blockK_exit, ↓blockK_normal, ↓blockK_ret, ↓blockK_goto, ↓blockK_panic, ↓loopK_normal, ↓loopK_exit, ↓loopK_ret, ↓loopK_goto, ↓loopK_panic, ↓topK_ret, ↓topK_normal, ↓topK_panic, ↓resVs_nil, ↓resVs_tmp, ↓resVs_cell, tup_one, tup_nil, tup_two, put_get, argE_get, ↓takeE_def, ↓heldE_nil, ↓heldE_cons, qNil_pt, qPick_bool, qGrd_bool, qGrd_undef, ↓letK_def, pBox_eq, pBin_add, pBin_sub, pBin_mul, pBin_eql, pBin_neq, pBin_lss, pBin_leq, pBin_gtr, pBin_geq, pUn_not, pUn_neg, eqB, neB, eqS, neS, pExtract0, pExtract1, pExtract2, max_int, min_int, sz_nw, sz_wr, sz_drew, mm_nw, fz_nw, mm_drew, fz_drew, fz_wr, sz_mkS, mm_mkS, fz_mkS, Fr.mkS, mm_wr_same, mm_wr_ne, wr_wr, bs_oneT, splice_full, gt_zero, gt_succ, gt_set, gt_bs, byte_eq0, byte_eq1, byte_n0, byte_n1, Fr.refl, Fr.nw, Fr.wr, Fr.drew, hlo]
  have hlf := left_spec hro (by omega) (by omega) (by omega)
  refine hlf.call ?_
  rintro _ w3 ⟨rfl, f3⟩
  have hnd : Ret P 56 #[.int .i64 61] w3 _ := rneed_spec (n := 61) (by omega)
  try simp (maxDischargeDepth := 8) [↓bindV_some, ↓bindU_some, ↓condE_true, ↓condE_false, ↓pickE_true, ↓pickE_false, ↓pickE_or, ↓pickE_and, ↓grdE_true, ↓grdE_false, ↓grdE_tf, ↓grdE_ft, ↓grdE_undef, ↓nilE_pt, ↓thenK_normal, ↓thenK_exit, ↓thenK_ret, ↓thenK_goto, ↓thenK_panic, ↓blockK_exit, ↓blockK_normal, ↓blockK_ret, ↓blockK_goto, ↓blockK_panic, ↓loopK_normal, ↓loopK_exit, ↓loopK_ret, ↓loopK_goto, ↓loopK_panic, ↓topK_ret, ↓topK_normal, ↓topK_panic, ↓resVs_nil, ↓resVs_tmp, ↓resVs_cell, tup_one, tup_nil, tup_two, put_get, argE_get, ↓takeE_def, ↓heldE_nil, ↓heldE_cons, qNil_pt, qPick_bool, qGrd_bool, qGrd_undef, ↓letK_def, pBox_eq, pBin_add, pBin_sub, pBin_mul, pBin_eql, pBin_neq, pBin_lss, pBin_leq, pBin_gtr, pBin_geq, pUn_not, pUn_neg, eqB, neB, eqS, neS, pExtract0, pExtract1, pExtract2, max_int, min_int, sz_nw, sz_wr, sz_drew, mm_nw, fz_nw, mm_drew, fz_drew, fz_wr, sz_mkS, mm_mkS, fz_mkS, Fr.mkS, mm_wr_same, mm_wr_ne, wr_wr, bs_oneT, splice_full, gt_zero, gt_succ, gt_set, gt_bs, byte_eq0, byte_eq1, byte_n0, byte_n1, Fr.refl, Fr.nw, Fr.wr, Fr.drew]
  refine hnd.call ?_
  rintro _ w4 ⟨rfl, f4⟩
  have hmk : ∀ w, pMake P 22 (Value.int .i64 61) (Value.int .i64 61) w = some (sl (sz w) 0 61 61, nw w (bs (zb 61)) 5) := fun w => by
    have := pMake_eq (P := P) (t := 22) (w := w) (n := 61) sliceE22 hasZero5 tyOk5 (by rw [zeroL5, cellsOf5]; rfl) (by rw [bytesOf5]; omega) (by omega)
    rw [zeroL5] at this
    exact this
  have hn61 : ((need 61 : Nat) : Int) = 2 := by rw [need61]; rfl
  try simp (maxDischargeDepth := 8) [↓bindV_some, ↓bindU_some, ↓condE_true, ↓condE_false, ↓pickE_true, ↓pickE_false, ↓pickE_or, ↓pickE_and, ↓grdE_true, ↓grdE_false, ↓grdE_tf, ↓grdE_ft, ↓grdE_undef, ↓nilE_pt, ↓thenK_normal, ↓thenK_exit, ↓thenK_ret, ↓thenK_goto, ↓thenK_panic, ↓blockK_exit, ↓blockK_normal, ↓blockK_ret, ↓blockK_goto, ↓blockK_panic, ↓loopK_normal, ↓loopK_exit, ↓loopK_ret, ↓loopK_goto, ↓loopK_panic, ↓topK_ret, ↓topK_normal, ↓topK_panic, ↓resVs_nil, ↓resVs_tmp, ↓resVs_cell, tup_one, tup_nil, tup_two, put_get, argE_get, ↓takeE_def, ↓heldE_nil, ↓heldE_cons, qNil_pt, qPick_bool, qGrd_bool, qGrd_undef, ↓letK_def, pBox_eq, pBin_add, pBin_sub, pBin_mul, pBin_eql, pBin_neq, pBin_lss, pBin_leq, pBin_gtr, pBin_geq, pUn_not, pUn_neg, eqB, neB, eqS, neS, pExtract0, pExtract1, pExtract2, max_int, min_int, sz_nw, sz_wr, sz_drew, mm_nw, fz_nw, mm_drew, fz_drew, fz_wr, sz_mkS, mm_mkS, fz_mkS, Fr.mkS, mm_wr_same, mm_wr_ne, wr_wr, bs_oneT, splice_full, gt_zero, gt_succ, gt_set, gt_bs, byte_eq0, byte_eq1, byte_n0, byte_n1, Fr.refl, Fr.nw, Fr.wr, Fr.drew, hn61, hmk]
  have q4 := f3.trans0 f4
  obtain ⟨W, hW⟩ : ∃ W, W = nw w4 (bs (zb 61)) 5 := ⟨_, rfl⟩
  have fW : Fr [] w4 W := by rw [hW]; exact (Fr.refl [] w4).nw _ _
  have qW := q4.trans0 fW
  have hbv : RdV W (sl (sz w4) 0 61 61) (zb 61).length (bs (zb 61)) := by
    rw [hW]
    exact rd_new w4 (bs (zb 61)) 5 (n := 61) (by unfold maxLen; omega)
  rw [← hW]
  have hF1lt : ∀ k ∈ F1, k < sz w4 := fun k hk => by have := (hd2.fr0 q4).ltF k hk; exact this
  have hrlt := (hro.fr q4 (by simp)).lt
  have hWs : sz W = sz w4 + 1 := by rw [hW]; simp [sz_nw, sz_wr, sz_drew, mm_nw, fz_nw, mm_drew, fz_drew, fz_wr, sz_mkS, mm_mkS, fz_mkS, Fr.mkS, mm_wr_same, mm_wr_ne, wr_wr, bs_oneT, splice_full, gt_zero, gt_succ, gt_set, gt_bs, byte_eq0, byte_eq1, byte_n0, byte_n1, Fr.refl, Fr.nw, Fr.wr, Fr.drew]
  have hroW : IsRoll W r b ((1 : Nat) : Int) ((3 : Nat) : Int) ((0 : Nat) : Int) := hro.fr qW (by simp)
  have hdW := hd2.fr0 qW
  have hbF : ∀ k, (sl (sz w4) 0 61 61).ownBlock = some k → k ∉ F1 := fun k hk hkF => by
    have : k = sz w4 := by simpa [Value.ownBlock] using hk.symm
    have := hF1lt k hkF
    omega
  have hzl : (zb 61).length = 61 := by simp
  have hwn : (newD 4).writes = 0 := rfl
  obtain ⟨D2, ha2, hc2, hv2, hpl2, hw2, _⟩ := appM_ok (N := 4) (fr := 1) (ln := 3) (at_ := 0) (B := zb 61) hc1 (by omega) (by rw [hzl]; omega) (by rw [hzl, need61]; omega)
  have hap := append_spec (fr := 1) (ln := 3) (at_ := 0) (B := zb 61) hroW hdW hrF hbv (fun _ => hbF) (by rw [hzl]; omega) (by omega) (by omega) (by rw [hp1]; simp) (by omega)
  rw [ha2] at hap
  refine hap.call ?_
  rintro _ w5 ⟨F2, hA⟩
  have hA1 := hA.val
  simp only at hA1
  subst hA1
  rw [hzl, need61] at hv2 hpl2 hw2
  have hro5 : IsRoll w5 r b ((1 : Nat) : Int) ((3 : Nat) : Int) ((2 : Nat) : Int) := by have := hA.roll; rw [hzl, need61] at this; exact this
  have hd5 : IsD w5 b D2 F2 := hA.isd
  have hlaid2 : Laid D2 1 3 [zb 61] 1 := by
    have := hlaid1.app (D' := D2) (e := zb 61) (by rw [hzl, need61]; omega) (fun j => by rw [hzl, need61]; simp only [total, List.map_nil, List.sum_nil, Nat.add_zero]; exact hv2 j)
    rw [hzl, need61] at this
    exact this
  try simp (maxDischargeDepth := 8) [↓bindV_some, ↓bindU_some, ↓condE_true, ↓condE_false, ↓pickE_true, ↓pickE_false, ↓pickE_or, ↓pickE_and, ↓grdE_true, ↓grdE_false, ↓grdE_tf, ↓grdE_ft, ↓grdE_undef, ↓nilE_pt, ↓thenK_normal, ↓thenK_exit, ↓thenK_ret, ↓thenK_goto, ↓thenK_panic, ↓blockK_exit, ↓blockK_normal, ↓blockK_ret, ↓blockK_goto, ↓blockK_panic, ↓loopK_normal, ↓loopK_exit, ↓loopK_ret, ↓loopK_goto, ↓loopK_panic, ↓topK_ret, ↓topK_normal, ↓topK_panic, ↓resVs_nil, ↓resVs_tmp, ↓resVs_cell, tup_one, tup_nil, tup_two, put_get, argE_get, ↓takeE_def, ↓heldE_nil, ↓heldE_cons, qNil_pt, qPick_bool, qGrd_bool, qGrd_undef, ↓letK_def, pBox_eq, pBin_add, pBin_sub, pBin_mul, pBin_eql, pBin_neq, pBin_lss, pBin_leq, pBin_gtr, pBin_geq, pUn_not, pUn_neg, eqB, neB, eqS, neS, pExtract0, pExtract1, pExtract2, max_int, min_int, sz_nw, sz_wr, sz_drew, mm_nw, fz_nw, mm_drew, fz_drew, fz_wr, sz_mkS, mm_mkS, fz_mkS, Fr.mkS, mm_wr_same, mm_wr_ne, wr_wr, bs_oneT, splice_full, gt_zero, gt_succ, gt_set, gt_bs, byte_eq0, byte_eq1, byte_n0, byte_n1, Fr.refl, Fr.nw, Fr.wr, Fr.drew]
  refine (rsyncR_spec hro5 hd5).call ?_
  rintro _ w6 ⟨rfl, hd6, f6⟩
  obtain ⟨hc3, hp3, hv3, hw3⟩ := sync_calm hc2
  have hdn2 : (if D2.down = true then (14 : Int) else 0) = 0 := by rw [if_neg (by simp [hc2.down])]
  rw [hdn2]
  have hro6 := hro5.fr f6 hA.out
  have hF2 : ∀ k ∈ F2, k ≠ sz w4 := fun k hk => by
    rcases hA.new k hk with h | h
    · have := hF1lt k h; omega
    · omega
  have hb5 := hbv.fr hA.fr' (fun k hk hkF => by
    have : k = sz w4 := by simpa [Value.ownBlock] using hk.symm
    rcases List.mem_cons.1 hkF with h | h
    · omega
    · exact hbF k hk h)
  have hb6 := hb5.fr f6 (fun k hk hkF => by
    have : k = sz w4 := by simpa [Value.ownBlock] using hk.symm
    exact hF2 k hkF this)
  have hlaid3 : Laid (syncD D2) 1 3 [zb 61] 1 := hlaid2.congr hv3
  try simp (maxDischargeDepth := 8) [↓bindV_some, ↓bindU_some, ↓condE_true, ↓condE_false, ↓pickE_true, ↓pickE_false, ↓pickE_or, ↓pickE_and, ↓grdE_true, ↓grdE_false, ↓grdE_tf, ↓grdE_ft, ↓grdE_undef, ↓nilE_pt, ↓thenK_normal, ↓thenK_exit, ↓thenK_ret, ↓thenK_goto, ↓thenK_panic, ↓blockK_exit, ↓blockK_normal, ↓blockK_ret, ↓blockK_goto, ↓blockK_panic, ↓loopK_normal, ↓loopK_exit, ↓loopK_ret, ↓loopK_goto, ↓loopK_panic, ↓topK_ret, ↓topK_normal, ↓topK_panic, ↓resVs_nil, ↓resVs_tmp, ↓resVs_cell, tup_one, tup_nil, tup_two, put_get, argE_get, ↓takeE_def, ↓heldE_nil, ↓heldE_cons, qNil_pt, qPick_bool, qGrd_bool, qGrd_undef, ↓letK_def, pBox_eq, pBin_add, pBin_sub, pBin_mul, pBin_eql, pBin_neq, pBin_lss, pBin_leq, pBin_gtr, pBin_geq, pUn_not, pUn_neg, eqB, neB, eqS, neS, pExtract0, pExtract1, pExtract2, max_int, min_int, sz_nw, sz_wr, sz_drew, mm_nw, fz_nw, mm_drew, fz_drew, fz_wr, sz_mkS, mm_mkS, fz_mkS, Fr.mkS, mm_wr_same, mm_wr_ne, wr_wr, bs_oneT, splice_full, gt_zero, gt_succ, gt_set, gt_bs, byte_eq0, byte_eq1, byte_n0, byte_n1, Fr.refl, Fr.nw, Fr.wr, Fr.drew]
  have hap2 := append_spec (fr := 1) (ln := 3) (at_ := 2) (B := zb 61) hro6 hd6 hA.out hb6 (fun _ k hk hkF => by
    have : k = sz w4 := by simpa [Value.ownBlock] using hk.symm
    exact hF2 k hkF this) (by rw [hzl]; omega) (by omega) (by omega) (by rw [hp3]; simp) (by omega)
  rw [appM_full hc3.down (by rw [hzl]; omega) (by omega) (by rw [hzl, need61]; omega)] at hap2
  refine hap2.call ?_
  rintro _ w7 ⟨F3, hA2⟩
  have hA21 := hA2.val
  simp only at hA21
  subst hA21
  have hro7 : IsRoll w7 r b ((1 : Nat) : Int) ((3 : Nat) : Int) ((2 : Nat) : Int) := hA2.roll
  have hd7 : IsD w7 b (syncD D2) F3 := hA2.isd
  have hb7 := hb6.fr hA2.fr' (fun k hk hkF => by
    have : k = sz w4 := by simpa [Value.ownBlock] using hk.symm
    rcases List.mem_cons.1 hkF with h | h
    · omega
    · exact hF2 k h this)
  try simp (maxDischargeDepth := 8) [↓bindV_some, ↓bindU_some, ↓condE_true, ↓condE_false, ↓pickE_true, ↓pickE_false, ↓pickE_or, ↓pickE_and, ↓grdE_true, ↓grdE_false, ↓grdE_tf, ↓grdE_ft, ↓grdE_undef, ↓nilE_pt, ↓thenK_normal, ↓thenK_exit, ↓thenK_ret, ↓thenK_goto, ↓thenK_panic, ↓blockK_exit, ↓blockK_normal, ↓blockK_ret, ↓blockK_goto, ↓blockK_panic, ↓loopK_normal, ↓loopK_exit, ↓loopK_ret, ↓loopK_goto, ↓loopK_panic, ↓topK_ret, ↓topK_normal, ↓topK_panic, ↓resVs_nil, ↓resVs_tmp, ↓resVs_cell, tup_one, tup_nil, tup_two, put_get, argE_get, ↓takeE_def, ↓heldE_nil, ↓heldE_cons, qNil_pt, qPick_bool, qGrd_bool, qGrd_undef, ↓letK_def, pBox_eq, pBin_add, pBin_sub, pBin_mul, pBin_eql, pBin_neq, pBin_lss, pBin_leq, pBin_gtr, pBin_geq, pUn_not, pUn_neg, eqB, neB, eqS, neS, pExtract0, pExtract1, pExtract2, max_int, min_int, sz_nw, sz_wr, sz_drew, mm_nw, fz_nw, mm_drew, fz_drew, fz_wr, sz_mkS, mm_mkS, fz_mkS, Fr.mkS, mm_wr_same, mm_wr_ne, wr_wr, bs_oneT, splice_full, gt_zero, gt_succ, gt_set, gt_bs, byte_eq0, byte_eq1, byte_n0, byte_n1, Fr.refl, Fr.nw, Fr.wr, Fr.drew]
  have hlf7 := left_spec hro7 (by omega) (by omega) (by omega)
  refine hlf7.call ?_
  rintro _ w8 ⟨rfl, f8⟩
  try simp (maxDischargeDepth := 8) [↓bindV_some, ↓bindU_some, ↓condE_true, ↓condE_false, ↓pickE_true, ↓pickE_false, ↓pickE_or, ↓pickE_and, ↓grdE_true, ↓grdE_false, ↓grdE_tf, ↓grdE_ft, ↓grdE_undef, ↓nilE_pt, ↓thenK_normal, ↓thenK_exit, ↓thenK_ret, ↓thenK_goto, ↓thenK_panic, ↓blockK_exit, ↓blockK_normal, ↓blockK_ret, ↓blockK_goto, ↓blockK_panic, ↓loopK_normal, ↓loopK_exit, ↓loopK_ret, ↓loopK_goto, ↓loopK_panic, ↓topK_ret, ↓topK_normal, ↓topK_panic, ↓resVs_nil, ↓resVs_tmp, ↓resVs_cell, tup_one, tup_nil, tup_two, put_get, argE_get, ↓takeE_def, ↓heldE_nil, ↓heldE_cons, qNil_pt, qPick_bool, qGrd_bool, qGrd_undef, ↓letK_def, pBox_eq, pBin_add, pBin_sub, pBin_mul, pBin_eql, pBin_neq, pBin_lss, pBin_leq, pBin_gtr, pBin_geq, pUn_not, pUn_neg, eqB, neB, eqS, neS, pExtract0, pExtract1, pExtract2, max_int, min_int, sz_nw, sz_wr, sz_drew, mm_nw, fz_nw, mm_drew, fz_drew, fz_wr, sz_mkS, mm_mkS, fz_mkS, Fr.mkS, mm_wr_same, mm_wr_ne, wr_wr, bs_oneT, splice_full, gt_zero, gt_succ, gt_set, gt_bs, byte_eq0, byte_eq1, byte_n0, byte_n1, Fr.refl, Fr.nw, Fr.wr, Fr.drew, b65', -bf65]
  have hscn : Ret P 48 #[pt b 0, .agg #[.int .i64 1, .int .i64 3]] w8 _ := scan_spec (fr := ((1 : Nat) : Int)) (ln := ((3 : Nat) : Int)) (hd7.fr0 f8)
  refine hscn.call ?_
  rintro _ w9 ⟨f9, _, _, hsR⟩
  obtain ⟨ov9, Lp9, rfl, hE9, hLp9⟩ := hsR hc3.down ⟨by omega, by omega, by rw [hc3.len]; omega, by rw [hc3.len]; omega⟩
  have hsc3 := hlaid3.scan (by simp)
  simp only [Int.toNat_natCast] at hLp9 ⊢
  rw [hsc3] at hLp9 ⊢
  have ht : ((total [zb 61] : Nat) : Int) = 2 := by simp only [total, List.map_cons, List.map_nil, List.sum_cons, List.sum_nil, hzl, need61]; rfl
  simp only [ht]
  obtain ⟨⟨q1, q2⟩, hq⟩ : ∃ p, Lp9 = [p] := by
    have hl9 : Lp9.length = 1 := by have := congrArg List.length hLp9; simpa using this
    match Lp9, hl9 with
    | [p], _ => exact ⟨p, rfl⟩
  subst hq
  have hq1 : q1 = zb 61 := by simpa using hLp9
  subst hq1
  have f9d := (Fr.refl [] w9).drew
  have hI := hE9.isE.fr0 f9d
  obtain ⟨pb, po, pc, hov9, hin, hgp⟩ := hI.at (j := 0) (p := (zb 61, q2)) rfl
  have hia : ∀ w', pIndexAddr P 67 ov9 (Value.int .i64 0) w' = some (pt pb po, w') := fun w' => by
    rw [hov9]
    have := ia67 (w := w') (b := pb) (o := po) (n := 1) (c := pc) (k := .i64) (j := 0) (by omega) (by omega)
    simp only [List.length_singleton]
    rw [this]; simp
  rw [Nat.add_zero] at hin hgp
  have hlp : pLoad P 22 (pt pb po) (drew w9) = some (q2, drew w9) := by rw [ld22 hin, hgp]
  have hcp : pConv P 22 9 q2 (drew w9) = some (strB (zb 61), drew w9) := conv_str sliceE22 intK5 und9 (hI.el (zb 61, q2) (by simp))
  have hcb : pConv P 22 9 (sl (sz w4) 0 61 61) (drew w9) = some (strB (zb 61), drew w9) := conv_str sliceE22 intK5 und9 (((hb7.fr0 f8).fr0 f9).fr0 f9d)
  have hlo9 : ∀ w, pBuiltin P .len #[67] 3 [ov9] w = some (i64 1, w) := fun w => by rw [hov9]; exact len67
  have heq : ∀ w, pBin P .eql 9 false (strB (zb 61)) (strB (zb 61)) w = some (.bool true, w) := fun w => by rw [eq_strB]; simp
  generalize hsl : sl (sz w4) 0 61 61 = bval at *
  try simp (maxDischargeDepth := 8) [↓bindV_some, ↓bindU_some, ↓condE_true, ↓condE_false, ↓pickE_true, ↓pickE_false, ↓pickE_or, ↓pickE_and, ↓grdE_true, ↓grdE_false, ↓grdE_tf, ↓grdE_ft, ↓grdE_undef, ↓nilE_pt, ↓thenK_normal, ↓thenK_exit, ↓thenK_ret, ↓thenK_goto, ↓thenK_panic, ↓blockK_exit, ↓blockK_normal, ↓blockK_ret, ↓blockK_goto, ↓blockK_panic, ↓loopK_normal, ↓loopK_exit, ↓loopK_ret, ↓loopK_goto, ↓loopK_panic, ↓topK_ret, ↓topK_normal, ↓topK_panic, ↓resVs_nil, ↓resVs_tmp, ↓resVs_cell, tup_one, tup_nil, tup_two, put_get, argE_get, ↓takeE_def, ↓heldE_nil, ↓heldE_cons, qNil_pt, qPick_bool, qGrd_bool, qGrd_undef, ↓letK_def, pBox_eq, pBin_add, pBin_sub, pBin_mul, pBin_eql, pBin_neq, pBin_lss, pBin_leq, pBin_gtr, pBin_geq, pUn_not, pUn_neg, eqB, neB, eqS, neS, pExtract0, pExtract1, pExtract2, max_int, min_int, sz_nw, sz_wr, sz_drew, mm_nw, fz_nw, mm_drew, fz_drew, fz_wr, sz_mkS, mm_mkS, fz_mkS, Fr.mkS, mm_wr_same, mm_wr_ne, wr_wr, bs_oneT, splice_full, gt_zero, gt_succ, gt_set, gt_bs, byte_eq0, byte_eq1, byte_n0, byte_n1, Fr.refl, Fr.nw, Fr.wr, Fr.drew, hia, hlp, hcp, hcb, hlo9, heq, b65', -bf65, -ld22]
  have hcl : Ret P 50 #[pt b 0, .agg #[.int .i64 1, .int .i64 3]] (drew w9) _ := clear_spec (fr := ((1 : Nat) : Int)) (ln := ((3 : Nat) : Int)) (((hd7.fr0 f8).fr0 f9).fr0 f9d) (by omega) (by omega) (fun _ => by omega) (by rw [hp3]; simp) (by omega)
  obtain ⟨D4, hw4, _⟩ := wipe_inN (N := 4) (n := 3) (D := syncD D2) (x := 1) (so := false) hc3 (by omega) (fun _ => hp3)
  have hclm : clearM (syncD D2) ((1 : Nat) : Int) ((3 : Nat) : Int) = (D4, 0) := by
    unfold clearM
    rw [if_neg (by simp [hc3.down]), if_pos ⟨by omega, by omega, by rw [hc3.len]; omega, by rw [hc3.len]; omega⟩]
    exact hw4
  refine hcl.call ?_
  rintro _ w10 ⟨rfl, F4, hd10, hg10⟩
  rw [hclm]
  try simp (maxDischargeDepth := 8) [↓bindV_some, ↓bindU_some, ↓condE_true, ↓condE_false, ↓pickE_true, ↓pickE_false, ↓pickE_or, ↓pickE_and, ↓grdE_true, ↓grdE_false, ↓grdE_tf, ↓grdE_ft, ↓grdE_undef, ↓nilE_pt, ↓thenK_normal, ↓thenK_exit, ↓thenK_ret, ↓thenK_goto, ↓thenK_panic, ↓blockK_exit, ↓blockK_normal, ↓blockK_ret, ↓blockK_goto, ↓blockK_panic, ↓loopK_normal, ↓loopK_exit, ↓loopK_ret, ↓loopK_goto, ↓loopK_panic, ↓topK_ret, ↓topK_normal, ↓topK_panic, ↓resVs_nil, ↓resVs_tmp, ↓resVs_cell, tup_one, tup_nil, tup_two, put_get, argE_get, ↓takeE_def, ↓heldE_nil, ↓heldE_cons, qNil_pt, qPick_bool, qGrd_bool, qGrd_undef, ↓letK_def, pBox_eq, pBin_add, pBin_sub, pBin_mul, pBin_eql, pBin_neq, pBin_lss, pBin_leq, pBin_gtr, pBin_geq, pUn_not, pUn_neg, eqB, neB, eqS, neS, pExtract0, pExtract1, pExtract2, max_int, min_int, sz_nw, sz_wr, sz_drew, mm_nw, fz_nw, mm_drew, fz_drew, fz_wr, sz_mkS, mm_mkS, fz_mkS, Fr.mkS, mm_wr_same, mm_wr_ne, wr_wr, bs_oneT, splice_full, gt_zero, gt_succ, gt_set, gt_bs, byte_eq0, byte_eq1, byte_n0, byte_n1, Fr.refl, Fr.nw, Fr.wr, Fr.drew]
  have hF1 : ∀ k ∈ F1, sz w ≤ k := fun k hk => by
    rcases hg2.new k hk with h | h
    · exact hF k h
    · have := f1.size; omega
  have hrw' : sz w ≤ r := by have := f1.size; omega
  have hF2' : ∀ k ∈ F2, sz w ≤ k := fun k hk => by
    rcases hA.new k hk with h | h
    · exact hF1 k h
    · have := (((f1.trans hg2.fr (fun k hk => .inr (hF k hk))).trans0 qW)).size; omega
  have G2 : Fr [] w w2 := f1.trans hg2.fr (fun k hk => .inr (hF k hk))
  have G5 : Fr [] w w5 := (G2.trans0 qW).trans hA.fr' (fun k hk => .inr (by
    rcases List.mem_cons.1 hk with h | h
    · omega
    · exact hF1 k h))
  have G6 : Fr [] w w6 := G5.trans f6 (fun k hk => .inr (hF2' k hk))
  have G7 : Fr [] w w7 := G6.trans hA2.fr' (fun k hk => .inr (by
    rcases List.mem_cons.1 hk with h | h
    · omega
    · exact hF2' k h))
  have hF3' : ∀ k ∈ F3, sz w ≤ k := fun k hk => by
    rcases hA2.new k hk with h | h
    · exact hF2' k h
    · have := G6.size; omega
  exact (((G7.trans0 f8).trans0 f9).trans0 f9d).trans hg10.fr (fun k hk => .inr (hF3' k hk))
end Go.Proofs.Yticncfkpfpkfoaa
