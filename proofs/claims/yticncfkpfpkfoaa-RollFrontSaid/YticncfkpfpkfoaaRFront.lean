/- RollFront: the law. -/
import Derived.Test.YticncfkpfpkfoaaRFront1
import Derived.Test.YticncfkpfpkfoaaRKLaw
set_option linter.unusedVariables false
set_option linter.unusedSimpArgs false
namespace Go.Proofs.Yticncfkpfpkfoaa
open Go

theorem sl_to67 {w : World} {v : Value} {n k : Nat} {cs : List Value} (h : RdV w v n cs) (hl : cs.length = n) (hk : k ≤ n) :
    ∃ T, (∀ w', pSlice P 67 v none (some (i64 k)) none w' = some (T, w')) ∧ RdV w T k (cs.take k) := by
  rcases h with ⟨a, c, rfl, rfl, rfl⟩ | ⟨b, o, c, rfl, h1, h2, h3, h4, h5⟩
  · obtain rfl : k = 0 := by omega
    refine ⟨_, fun w' => pSlice_any (w := w') (a := a) (n := 0) (c := c) (lo := none) (hi := some (i64 (0 : Nat))) sliceE67 tyOk22 rfl rfl (by simp [bLo]) (by simp [bLo, bHi]) (by simp [bHi]) (by omega), ?_⟩
    refine .inl ⟨_, _, rfl, rfl, rfl⟩
  · refine ⟨.slice (some ⟨b, o, none⟩) k c, fun w' => by rw [slH67 (by omega) (by omega) h1]; simp, ?_⟩
    have hlk : (cs.take k).length = k := by rw [List.length_take]; omega
    refine .inr ⟨b, o, c, rfl, by omega, h2, h3, by omega, ?_⟩
    rw [hlk]
    conv => rhs; rw [← h5]
    rw [List.take_take, Nat.min_eq_left (by omega)]

theorem rollFront_law {w : World} {v u kv : Value} {L M : List (List UInt8 × Value)} {kept : List Int} (h : IsE w v L) (h2 : IsE w u M) (hk : RdV w kv kept.length (kept.map (Value.int .i64))) :
    Ret P 15 #[v, u, kv] w fun x w' => x = .bool true ∧ Fr [] w w' := by
  refine F15ok ?_
  unfold F15
  obtain ⟨va, vc, hv⟩ := sl_of h.row
  obtain ⟨ua, uc, hu⟩ := sl_of h2.row
  obtain ⟨ka, kc, hkv⟩ := sl_of hk
  have hlv : ∀ w, pBuiltin P .len #[67] 3 [v] w = some (i64 L.length, w) := fun w => by rw [hv]; exact len67
  have hlu : ∀ w, pBuiltin P .len #[67] 3 [u] w = some (i64 M.length, w) := fun w => by rw [hu]; exact len67
  have hlk : ∀ w, pBuiltin P .len #[43] 3 [kv] w = some (i64 kept.length, w) := fun w => by rw [hkv]; exact len43
  have bl4 : ∀ w, pBuildSlice P 22 4 [(0, u8 108), (1, u8 97), (2, u8 115), (3, u8 116)] w = some (sl (sz w) 0 4 4, nw w (bs [108, 97, 115, 116]) 5) := fun w => by
    rw [bsl22 (by omega) (by simp)]
    rfl
  obtain ⟨B, hB⟩ : ∃ B : List UInt8, B = [108, 97, 115, 116] := ⟨_, rfl⟩
  have hBl : B.length = 4 := by rw [hB]; rfl
  have hnB : need B.length = 1 := by rw [hBl]; rfl
  rw [← hB] at bl4
  refine speaks19.call ?_
  rintro _ w1 ⟨rfl, f1⟩
  try simp (maxDischargeDepth := 8) [↓bindV_some, ↓bindU_some, ↓condE_true, ↓condE_false, ↓pickE_true, ↓pickE_false, ↓pickE_or, ↓pickE_and, ↓grdE_true, ↓grdE_false, ↓grdE_tf, ↓grdE_ft, ↓grdE_undef, ↓nilE_pt, ↓thenK_normal, ↓thenK_exit, ↓thenK_ret, ↓thenK_goto, ↓thenK_panic, ↓blockK_exit, ↓blockK_normal, ↓blockK_ret, ↓blockK_goto, ↓blockK_panic, ↓loopK_normal, ↓loopK_exit, ↓loopK_ret, ↓loopK_goto, ↓loopK_panic, ↓topK_ret, ↓topK_normal, ↓topK_panic, ↓resVs_nil, ↓resVs_tmp, ↓resVs_cell, tup_one, tup_nil, tup_two, put_get, argE_get, ↓takeE_def, ↓heldE_nil, ↓heldE_cons, qNil_pt, qPick_bool, qGrd_bool, qGrd_undef, ↓letK_def, pBox_eq, pBin_add, pBin_sub, pBin_mul, pBin_eql, pBin_neq, pBin_lss, pBin_leq, pBin_gtr, pBin_geq, pUn_not, pUn_neg, eqB, neB, eqS, neS, pExtract0, pExtract1, pExtract2, max_int, min_int, sz_nw, sz_wr, sz_drew, mm_nw, fz_nw, mm_drew, fz_drew, fz_wr, sz_mkS, mm_mkS, fz_mkS, Fr.mkS, mm_wr_same, mm_wr_ne, wr_wr, bs_oneT, splice_full, gt_zero, gt_succ, gt_set, gt_bs, byte_eq0, byte_eq1, byte_n0, byte_n1, Fr.refl, Fr.nw, Fr.wr, Fr.drew, bl4, -bsl22]
  refine (big19_spec (h.fr0 f1)).call ?_
  rintro _ w2 ⟨⟨b1, rfl, hb1⟩, f2⟩
  have g2 := f1.trans0 f2
  cases b1 with
  | true =>
    try simp (maxDischargeDepth := 8) [↓bindV_some, ↓bindU_some, ↓condE_true, ↓condE_false, ↓pickE_true, ↓pickE_false, ↓pickE_or, ↓pickE_and, ↓grdE_true, ↓grdE_false, ↓grdE_tf, ↓grdE_ft, ↓grdE_undef, ↓nilE_pt, ↓thenK_normal, ↓thenK_exit, ↓thenK_ret, ↓thenK_goto, ↓thenK_panic, ↓blockK_exit, ↓blockK_normal, ↓blockK_ret, ↓blockK_goto, ↓blockK_panic, ↓loopK_normal, ↓loopK_exit, ↓loopK_ret, ↓loopK_goto, ↓loopK_panic, ↓topK_ret, ↓topK_normal, ↓topK_panic, ↓resVs_nil, ↓resVs_tmp, ↓resVs_cell, tup_one, tup_nil, tup_two, put_get, argE_get, ↓takeE_def, ↓heldE_nil, ↓heldE_cons, qNil_pt, qPick_bool, qGrd_bool, qGrd_undef, ↓letK_def, pBox_eq, pBin_add, pBin_sub, pBin_mul, pBin_eql, pBin_neq, pBin_lss, pBin_leq, pBin_gtr, pBin_geq, pUn_not, pUn_neg, eqB, neB, eqS, neS, pExtract0, pExtract1, pExtract2, max_int, min_int, sz_nw, sz_wr, sz_drew, mm_nw, fz_nw, mm_drew, fz_drew, fz_wr, sz_mkS, mm_mkS, fz_mkS, Fr.mkS, mm_wr_same, mm_wr_ne, wr_wr, bs_oneT, splice_full, gt_zero, gt_succ, gt_set, gt_bs, byte_eq0, byte_eq1, byte_n0, byte_n1, Fr.refl, Fr.nw, Fr.wr, Fr.drew, bl4, -bsl22]
    exact g2
  | false =>
    have hbig1 := hb1 rfl
    try simp (maxDischargeDepth := 8) [↓bindV_some, ↓bindU_some, ↓condE_true, ↓condE_false, ↓pickE_true, ↓pickE_false, ↓pickE_or, ↓pickE_and, ↓grdE_true, ↓grdE_false, ↓grdE_tf, ↓grdE_ft, ↓grdE_undef, ↓nilE_pt, ↓thenK_normal, ↓thenK_exit, ↓thenK_ret, ↓thenK_goto, ↓thenK_panic, ↓blockK_exit, ↓blockK_normal, ↓blockK_ret, ↓blockK_goto, ↓blockK_panic, ↓loopK_normal, ↓loopK_exit, ↓loopK_ret, ↓loopK_goto, ↓loopK_panic, ↓topK_ret, ↓topK_normal, ↓topK_panic, ↓resVs_nil, ↓resVs_tmp, ↓resVs_cell, tup_one, tup_nil, tup_two, put_get, argE_get, ↓takeE_def, ↓heldE_nil, ↓heldE_cons, qNil_pt, qPick_bool, qGrd_bool, qGrd_undef, ↓letK_def, pBox_eq, pBin_add, pBin_sub, pBin_mul, pBin_eql, pBin_neq, pBin_lss, pBin_leq, pBin_gtr, pBin_geq, pUn_not, pUn_neg, eqB, neB, eqS, neS, pExtract0, pExtract1, pExtract2, max_int, min_int, sz_nw, sz_wr, sz_drew, mm_nw, fz_nw, mm_drew, fz_drew, fz_wr, sz_mkS, mm_mkS, fz_mkS, Fr.mkS, mm_wr_same, mm_wr_ne, wr_wr, bs_oneT, splice_full, gt_zero, gt_succ, gt_set, gt_bs, byte_eq0, byte_eq1, byte_n0, byte_n1, Fr.refl, Fr.nw, Fr.wr, Fr.drew, bl4, -bsl22]
    refine (big19_spec (h2.fr0 g2)).call ?_
    rintro _ w3 ⟨⟨b2, rfl, hb2⟩, f3⟩
    have g3 := g2.trans0 f3
    cases b2 with
    | true =>
      try simp (maxDischargeDepth := 8) [↓bindV_some, ↓bindU_some, ↓condE_true, ↓condE_false, ↓pickE_true, ↓pickE_false, ↓pickE_or, ↓pickE_and, ↓grdE_true, ↓grdE_false, ↓grdE_tf, ↓grdE_ft, ↓grdE_undef, ↓nilE_pt, ↓thenK_normal, ↓thenK_exit, ↓thenK_ret, ↓thenK_goto, ↓thenK_panic, ↓blockK_exit, ↓blockK_normal, ↓blockK_ret, ↓blockK_goto, ↓blockK_panic, ↓loopK_normal, ↓loopK_exit, ↓loopK_ret, ↓loopK_goto, ↓loopK_panic, ↓topK_ret, ↓topK_normal, ↓topK_panic, ↓resVs_nil, ↓resVs_tmp, ↓resVs_cell, tup_one, tup_nil, tup_two, put_get, argE_get, ↓takeE_def, ↓heldE_nil, ↓heldE_cons, qNil_pt, qPick_bool, qGrd_bool, qGrd_undef, ↓letK_def, pBox_eq, pBin_add, pBin_sub, pBin_mul, pBin_eql, pBin_neq, pBin_lss, pBin_leq, pBin_gtr, pBin_geq, pUn_not, pUn_neg, eqB, neB, eqS, neS, pExtract0, pExtract1, pExtract2, max_int, min_int, sz_nw, sz_wr, sz_drew, mm_nw, fz_nw, mm_drew, fz_drew, fz_wr, sz_mkS, mm_mkS, fz_mkS, Fr.mkS, mm_wr_same, mm_wr_ne, wr_wr, bs_oneT, splice_full, gt_zero, gt_succ, gt_set, gt_bs, byte_eq0, byte_eq1, byte_n0, byte_n1, Fr.refl, Fr.nw, Fr.wr, Fr.drew, bl4, -bsl22]
      exact g3
    | false =>
      have hbig2 := hb2 rfl
      by_cases hc : 200 < kept.length
      · have c1 : ((200 : Int) < kept.length) = True := eq_true (by omega)
        have c2 : (200 < kept.length) = True := eq_true hc
        try simp (maxDischargeDepth := 8) [↓bindV_some, ↓bindU_some, ↓condE_true, ↓condE_false, ↓pickE_true, ↓pickE_false, ↓pickE_or, ↓pickE_and, ↓grdE_true, ↓grdE_false, ↓grdE_tf, ↓grdE_ft, ↓grdE_undef, ↓nilE_pt, ↓thenK_normal, ↓thenK_exit, ↓thenK_ret, ↓thenK_goto, ↓thenK_panic, ↓blockK_exit, ↓blockK_normal, ↓blockK_ret, ↓blockK_goto, ↓blockK_panic, ↓loopK_normal, ↓loopK_exit, ↓loopK_ret, ↓loopK_goto, ↓loopK_panic, ↓topK_ret, ↓topK_normal, ↓topK_panic, ↓resVs_nil, ↓resVs_tmp, ↓resVs_cell, tup_one, tup_nil, tup_two, put_get, argE_get, ↓takeE_def, ↓heldE_nil, ↓heldE_cons, qNil_pt, qPick_bool, qGrd_bool, qGrd_undef, ↓letK_def, pBox_eq, pBin_add, pBin_sub, pBin_mul, pBin_eql, pBin_neq, pBin_lss, pBin_leq, pBin_gtr, pBin_geq, pUn_not, pUn_neg, eqB, neB, eqS, neS, pExtract0, pExtract1, pExtract2, max_int, min_int, sz_nw, sz_wr, sz_drew, mm_nw, fz_nw, mm_drew, fz_drew, fz_wr, sz_mkS, mm_mkS, fz_mkS, Fr.mkS, mm_wr_same, mm_wr_ne, wr_wr, bs_oneT, splice_full, gt_zero, gt_succ, gt_set, gt_bs, byte_eq0, byte_eq1, byte_n0, byte_n1, Fr.refl, Fr.nw, Fr.wr, Fr.drew, bl4, -bsl22, hlk, c1, c2]
        exact g3
      have c1 : ((200 : Int) < kept.length) = False := eq_false (by omega)
      have c2 : (200 < kept.length) = False := eq_false hc
      try simp (maxDischargeDepth := 8) [↓bindV_some, ↓bindU_some, ↓condE_true, ↓condE_false, ↓pickE_true, ↓pickE_false, ↓pickE_or, ↓pickE_and, ↓grdE_true, ↓grdE_false, ↓grdE_tf, ↓grdE_ft, ↓grdE_undef, ↓nilE_pt, ↓thenK_normal, ↓thenK_exit, ↓thenK_ret, ↓thenK_goto, ↓thenK_panic, ↓blockK_exit, ↓blockK_normal, ↓blockK_ret, ↓blockK_goto, ↓blockK_panic, ↓loopK_normal, ↓loopK_exit, ↓loopK_ret, ↓loopK_goto, ↓loopK_panic, ↓topK_ret, ↓topK_normal, ↓topK_panic, ↓resVs_nil, ↓resVs_tmp, ↓resVs_cell, tup_one, tup_nil, tup_two, put_get, argE_get, ↓takeE_def, ↓heldE_nil, ↓heldE_cons, qNil_pt, qPick_bool, qGrd_bool, qGrd_undef, ↓letK_def, pBox_eq, pBin_add, pBin_sub, pBin_mul, pBin_eql, pBin_neq, pBin_lss, pBin_leq, pBin_gtr, pBin_geq, pUn_not, pUn_neg, eqB, neB, eqS, neS, pExtract0, pExtract1, pExtract2, max_int, min_int, sz_nw, sz_wr, sz_drew, mm_nw, fz_nw, mm_drew, fz_drew, fz_wr, sz_mkS, mm_mkS, fz_mkS, Fr.mkS, mm_wr_same, mm_wr_ne, wr_wr, bs_oneT, splice_full, gt_zero, gt_succ, gt_set, gt_bs, byte_eq0, byte_eq1, byte_n0, byte_n1, Fr.refl, Fr.nw, Fr.wr, Fr.drew, bl4, -bsl22, hlk, c1, c2]
      have hnew : Ret P 27 #[i64 300] w3 _ := new_spec (w := w3) (n := 300) (by omega) (by omega)
      refine hnew.call ?_
      rintro _ w4 ⟨b, F, rfl, hd4, f4, hF⟩
      have g4 := g3.trans0 f4
      have b65a : ∀ w, pBuild P 65 [(0, i64 7), (1, i64 290)] w = some (.agg #[i64 7, i64 290], w) := fun w => b65
      have hsp2 : ∀ (a b : Int) (l : List Value), l.length = 2 → splice l 0 [i64 a, i64 b] = [i64 a, i64 b] := fun a b l hl => splice_full (by rw [hl]; rfl)
      obtain ⟨W, hW⟩ : ∃ W, W = wr (nw w4 [i64 0, i64 0] 65) (sz w4) [i64 7, i64 290] := ⟨_, rfl⟩
      have fW : Fr [] w4 W := by rw [hW]; exact ((Fr.refl [] w4).nw _ _).wr (.inr (Nat.le_refl _)) _
      have hWm : mm W (sz w4) = [i64 7, i64 290] := by rw [hW]; simp [sz_nw, sz_wr, sz_drew, mm_nw, fz_nw, mm_drew, fz_drew, fz_wr, sz_mkS, mm_mkS, fz_mkS, Fr.mkS, mm_wr_same, mm_wr_ne, wr_wr, bs_oneT, splice_full, gt_zero, gt_succ, gt_set, gt_bs, byte_eq0, byte_eq1, byte_n0, byte_n1, Fr.refl, Fr.nw, Fr.wr, Fr.drew]
      have hWz : fz W (sz w4) = false := by rw [hW]; simp [sz_nw, sz_wr, sz_drew, mm_nw, fz_nw, mm_drew, fz_drew, fz_wr, sz_mkS, mm_mkS, fz_mkS, Fr.mkS, mm_wr_same, mm_wr_ne, wr_wr, bs_oneT, splice_full, gt_zero, gt_succ, gt_set, gt_bs, byte_eq0, byte_eq1, byte_n0, byte_n1, Fr.refl, Fr.nw, Fr.wr, Fr.drew]
      have hWs := lt_of_fz hWz
      have gW := g4.trans0 fW
      try simp (maxDischargeDepth := 8) [↓bindV_some, ↓bindU_some, ↓condE_true, ↓condE_false, ↓pickE_true, ↓pickE_false, ↓pickE_or, ↓pickE_and, ↓grdE_true, ↓grdE_false, ↓grdE_tf, ↓grdE_ft, ↓grdE_undef, ↓nilE_pt, ↓thenK_normal, ↓thenK_exit, ↓thenK_ret, ↓thenK_goto, ↓thenK_panic, ↓blockK_exit, ↓blockK_normal, ↓blockK_ret, ↓blockK_goto, ↓blockK_panic, ↓loopK_normal, ↓loopK_exit, ↓loopK_ret, ↓loopK_goto, ↓loopK_panic, ↓topK_ret, ↓topK_normal, ↓topK_panic, ↓resVs_nil, ↓resVs_tmp, ↓resVs_cell, tup_one, tup_nil, tup_two, put_get, argE_get, ↓takeE_def, ↓heldE_nil, ↓heldE_cons, qNil_pt, qPick_bool, qGrd_bool, qGrd_undef, ↓letK_def, pBox_eq, pBin_add, pBin_sub, pBin_mul, pBin_eql, pBin_neq, pBin_lss, pBin_leq, pBin_gtr, pBin_geq, pUn_not, pUn_neg, eqB, neB, eqS, neS, pExtract0, pExtract1, pExtract2, max_int, min_int, sz_nw, sz_wr, sz_drew, mm_nw, fz_nw, mm_drew, fz_drew, fz_wr, sz_mkS, mm_mkS, fz_mkS, Fr.mkS, mm_wr_same, mm_wr_ne, wr_wr, bs_oneT, splice_full, gt_zero, gt_succ, gt_set, gt_bs, byte_eq0, byte_eq1, byte_n0, byte_n1, Fr.refl, Fr.nw, Fr.wr, Fr.drew, bl4, -bsl22, b65a, hsp2, ← hW, hWm, -bf65]
      have hop : Ret P 45 #[pt b 0, .agg #[i64 7, i64 290]] W _ := open_new (N := 300) (fr := 7) (ln := 290) (hd4.fr0 fW) (by omega) (by omega) (by omega) (by omega)
      refine hop.call ?_
      rintro _ w5 ⟨r, ov, D1, F1, rfl, hd5, hg5, hro5, hrw, hrF, hc1, hp1, hlaid1, hw1⟩
      have hFw : ∀ k ∈ F, sz w ≤ k ∧ k < sz w4 := fun k hk => ⟨by have := hF k hk; have := g3.size; omega, hd4.ltF k hk⟩
      have hF1 : ∀ k ∈ F1, sz w ≤ k ∧ k ≠ sz w4 := fun k hk => by
        rcases hg5.new k hk with h | h
        · have := hFw k h; omega
        · have := gW.size; omega
      have g5 : Fr [] w w5 := gW.trans hg5.fr (fun k hk => .inr (hFw k hk).1)
      have hm5 : mm w5 (sz w4) = [i64 7, i64 290] := by rw [hg5.fr.mm hWs (fun hk => by have := (hFw _ hk).2; omega), hWm]
      have hz5 : fz w5 (sz w4) = false := by rw [hg5.fr.fz hWs (fun hk => by have := (hFw _ hk).2; omega), hWz]
      try simp (maxDischargeDepth := 8) [↓bindV_some, ↓bindU_some, ↓condE_true, ↓condE_false, ↓pickE_true, ↓pickE_false, ↓pickE_or, ↓pickE_and, ↓grdE_true, ↓grdE_false, ↓grdE_tf, ↓grdE_ft, ↓grdE_undef, ↓nilE_pt, ↓thenK_normal, ↓thenK_exit, ↓thenK_ret, ↓thenK_goto, ↓thenK_panic, ↓blockK_exit, ↓blockK_normal, ↓blockK_ret, ↓blockK_goto, ↓blockK_panic, ↓loopK_normal, ↓loopK_exit, ↓loopK_ret, ↓loopK_goto, ↓loopK_panic, ↓topK_ret, ↓topK_normal, ↓topK_panic, ↓resVs_nil, ↓resVs_tmp, ↓resVs_cell, tup_one, tup_nil, tup_two, put_get, argE_get, ↓takeE_def, ↓heldE_nil, ↓heldE_cons, qNil_pt, qPick_bool, qGrd_bool, qGrd_undef, ↓letK_def, pBox_eq, pBin_add, pBin_sub, pBin_mul, pBin_eql, pBin_neq, pBin_lss, pBin_leq, pBin_gtr, pBin_geq, pUn_not, pUn_neg, eqB, neB, eqS, neS, pExtract0, pExtract1, pExtract2, max_int, min_int, sz_nw, sz_wr, sz_drew, mm_nw, fz_nw, mm_drew, fz_drew, fz_wr, sz_mkS, mm_mkS, fz_mkS, Fr.mkS, mm_wr_same, mm_wr_ne, wr_wr, bs_oneT, splice_full, gt_zero, gt_succ, gt_set, gt_bs, byte_eq0, byte_eq1, byte_n0, byte_n1, Fr.refl, Fr.nw, Fr.wr, Fr.drew, bl4, -bsl22, hlv]
      have hcbw : sz w ≤ sz w4 := g4.size
      have hrw' : sz w ≤ r := by have := gW.size; omega
      have hrc : r ≠ sz w4 := by omega
      have hS0 : FrS w [] [] D1.firm D1.writes r b (sz w4) D1 F1 (.slice none 0 0) w5 :=
        ⟨g5, hd5, hF1, hro5, hrF, hc1, hlaid1, by rw [hp1]; rfl, rfl, by simp [tot, total], hm5, hz5, World.ownsRow_nil _ _ _ _, by simp [Value.ownBlock], by simp, by simp⟩
      refine loopE_of (Fr0I w L [] D1.firm D1.writes v r b (sz w4) u kv undef) L.length ⟨0, [], F1, D1, .slice none 0 0, rfl, by omega, by simp, hS0, by simp [put_get, argE_get], by simp [put_get], by simp [put_get], by simp [put_get, argE_get], by simp [put_get, argE_get], by simp [put_get], by simp [put_get], by simp [put_get], by simp [put_get]⟩ ?_
      intro m e w6 hI
      refine fr0_step h hbig1 (by simp) (by omega) hrw' hcbw hrc hI (fun m' e' w' hlt hI' => ⟨m', hlt, hI'⟩) (fun e' w' hI' => ?_)
      obtain ⟨j, Lp1, F6, D6, wv6, hj0, hj, hLpj, hS6, es1, es2, es3, a1, a2, a7, a9, a10, a13⟩ := hI'
      have hL1 : Lp1.length ≤ 20 := by have := hbig1.1; omega
      try simp (maxDischargeDepth := 8) [↓bindV_some, ↓bindU_some, ↓condE_true, ↓condE_false, ↓pickE_true, ↓pickE_false, ↓pickE_or, ↓pickE_and, ↓grdE_true, ↓grdE_false, ↓grdE_tf, ↓grdE_ft, ↓grdE_undef, ↓nilE_pt, ↓thenK_normal, ↓thenK_exit, ↓thenK_ret, ↓thenK_goto, ↓thenK_panic, ↓blockK_exit, ↓blockK_normal, ↓blockK_ret, ↓blockK_goto, ↓blockK_panic, ↓loopK_normal, ↓loopK_exit, ↓loopK_ret, ↓loopK_goto, ↓loopK_panic, ↓topK_ret, ↓topK_normal, ↓topK_panic, ↓resVs_nil, ↓resVs_tmp, ↓resVs_cell, tup_one, tup_nil, tup_two, put_get, argE_get, ↓takeE_def, ↓heldE_nil, ↓heldE_cons, qNil_pt, qPick_bool, qGrd_bool, qGrd_undef, ↓letK_def, pBox_eq, pBin_add, pBin_sub, pBin_mul, pBin_eql, pBin_neq, pBin_lss, pBin_leq, pBin_gtr, pBin_geq, pUn_not, pUn_neg, eqB, neB, eqS, neS, pExtract0, pExtract1, pExtract2, max_int, min_int, sz_nw, sz_wr, sz_drew, mm_nw, fz_nw, mm_drew, fz_drew, fz_wr, sz_mkS, mm_mkS, fz_mkS, Fr.mkS, mm_wr_same, mm_wr_ne, wr_wr, bs_oneT, splice_full, gt_zero, gt_succ, gt_set, gt_bs, byte_eq0, byte_eq1, byte_n0, byte_n1, Fr.refl, Fr.nw, Fr.wr, Fr.drew, bl4, -bsl22, a10]
      refine (rsyncR_spec hS6.roll hS6.isd).call ?_
      rintro _ w7 ⟨rfl, hd7, f7⟩
      obtain ⟨hc7, hp7, hv7, hwr7⟩ := sync_calm hS6.calm
      rw [if_neg (by simp [hS6.calm.down])]
      have nil7 : ([] : List (List UInt8 × Value)) ++ Lp1 = Lp1 := rfl
      have q1 := hS6.roll
      have q2 := hS6.laid
      have q3 := hS6.own
      have q4 := hS6.el
      have q5 := hS6.short
      have q6 := hS6.wrs
      rw [nil7] at q1 q2 q3 q4 q5
      have ht290 : tot Lp1 + (290 - tot Lp1) = 290 := q2.1
      have hS7 : FrS w Lp1 [] (syncD D6).firm (D1.writes + tot Lp1) r b (sz w4) (syncD D6) F6 wv6 w7 := by
        refine ⟨hS6.fr.trans f7 (fun k hk => .inr (hS6.hF k hk).1), hd7, hS6.hF, ?_, hS6.rF, hc7, ?_, by rw [hp7]; rfl, rfl, ?_, ?_, ?_, ?_, hS6.apart, ?_, ?_⟩
        · rw [List.append_nil]; exact q1.fr f7 hS6.rF
        · rw [List.append_nil]; exact q2.congr hv7
        · rw [hwr7]; have : tot ([] : List (List UInt8 × Value)) = 0 := rfl; omega
        · rw [f7.mm (lt_of_fz hS6.zcb) (fun hk => (hS6.hF _ hk).2 rfl), hS6.mcb]
        · rw [f7.fz (lt_of_fz hS6.zcb) (fun hk => (hS6.hF _ hk).2 rfl), hS6.zcb]
        · rw [List.append_nil]; exact own_fr q3 f7 (fun c hc => (hS6.apart c hc).1)
        · rw [List.append_nil]; exact q4
        · rw [List.append_nil]; exact q5
      have hbase : ∀ i, i < 290 → (syncD D6).firm.getD (7 + i) [] = (secsAll (Lp1.map (·.1)) ++ List.replicate (290 - tot Lp1) (zb 64)).getD i [] := fun i hi => by
        have := (q2.congr hv7).2 i hi
        rw [view_nil hp7] at this
        exact this
      obtain ⟨wa6, wc6, hwv6⟩ := own_sl q3
      have hlw6 : ∀ w, pBuiltin P .len #[67] 3 [wv6] w = some (i64 Lp1.length, w) := fun w => by rw [hwv6]; exact len67
      try simp (maxDischargeDepth := 8) [↓bindV_some, ↓bindU_some, ↓condE_true, ↓condE_false, ↓pickE_true, ↓pickE_false, ↓pickE_or, ↓pickE_and, ↓grdE_true, ↓grdE_false, ↓grdE_tf, ↓grdE_ft, ↓grdE_undef, ↓nilE_pt, ↓thenK_normal, ↓thenK_exit, ↓thenK_ret, ↓thenK_goto, ↓thenK_panic, ↓blockK_exit, ↓blockK_normal, ↓blockK_ret, ↓blockK_goto, ↓blockK_panic, ↓loopK_normal, ↓loopK_exit, ↓loopK_ret, ↓loopK_goto, ↓loopK_panic, ↓topK_ret, ↓topK_normal, ↓topK_panic, ↓resVs_nil, ↓resVs_tmp, ↓resVs_cell, tup_one, tup_nil, tup_two, put_get, argE_get, ↓takeE_def, ↓heldE_nil, ↓heldE_cons, qNil_pt, qPick_bool, qGrd_bool, qGrd_undef, ↓letK_def, pBox_eq, pBin_add, pBin_sub, pBin_mul, pBin_eql, pBin_neq, pBin_lss, pBin_leq, pBin_gtr, pBin_geq, pUn_not, pUn_neg, eqB, neB, eqS, neS, pExtract0, pExtract1, pExtract2, max_int, min_int, sz_nw, sz_wr, sz_drew, mm_nw, fz_nw, mm_drew, fz_drew, fz_wr, sz_mkS, mm_mkS, fz_mkS, Fr.mkS, mm_wr_same, mm_wr_ne, wr_wr, bs_oneT, splice_full, gt_zero, gt_succ, gt_set, gt_bs, byte_eq0, byte_eq1, byte_n0, byte_n1, Fr.refl, Fr.nw, Fr.wr, Fr.drew, bl4, -bsl22, a1, a13, hlw6, hlu]
      refine loopE_of (Fr1I w M Lp1 (syncD D6).firm (D1.writes + tot Lp1) u r b (sz w4) u kv (i64 Lp1.length)) M.length ⟨0, [], F6, syncD D6, wv6, rfl, by omega, by simp, hS7, by simp [put_get, a1], by simp [put_get], by simp [put_get], by simp [put_get, a1], by simp [put_get, a2], by simp [put_get, a7], by simp [put_get, a9], by simp [put_get, a10], by simp [put_get, a13], by simp [put_get]⟩ ?_
      intro m e w8 hI
      refine fr1_step h2 hbig2 hL1 (by omega) hrw' hcbw hrc hI (fun m' e' w' hlt hI' => ⟨m', hlt, hI'⟩) (fun e' w' hI' => ?_)
      obtain ⟨j2, Lp, F9, D9, wv9, hj20, hj2, hLpj2, hS9, es1', es2', es3', c1', c2', c7, c9, c10, c13, c16⟩ := hI'
      have hL2 : Lp.length ≤ 20 := by have := hbig2.1; omega
      clear hI es1 es2 es3 es1' es2' es3'
      have hkF : ∀ k, kv.ownBlock = some k → k ∈ F9 → kept.length = 0 := fun k hk1 hk2 => by
        have := (hS9.hF k hk2).1
        rcases id hk with ⟨_, _, _, h1, _⟩ | ⟨b1, o1, c1, h1, _, _, h2, _⟩
        · exact h1
        · subst h1
          have : b1 = k := by simpa [Value.ownBlock] using hk1
          omega
      try simp (maxDischargeDepth := 8) [↓bindV_some, ↓bindU_some, ↓condE_true, ↓condE_false, ↓pickE_true, ↓pickE_false, ↓pickE_or, ↓pickE_and, ↓grdE_true, ↓grdE_false, ↓grdE_tf, ↓grdE_ft, ↓grdE_undef, ↓nilE_pt, ↓thenK_normal, ↓thenK_exit, ↓thenK_ret, ↓thenK_goto, ↓thenK_panic, ↓blockK_exit, ↓blockK_normal, ↓blockK_ret, ↓blockK_goto, ↓blockK_panic, ↓loopK_normal, ↓loopK_exit, ↓loopK_ret, ↓loopK_goto, ↓loopK_panic, ↓topK_ret, ↓topK_normal, ↓topK_panic, ↓resVs_nil, ↓resVs_tmp, ↓resVs_cell, tup_one, tup_nil, tup_two, put_get, argE_get, ↓takeE_def, ↓heldE_nil, ↓heldE_cons, qNil_pt, qPick_bool, qGrd_bool, qGrd_undef, ↓letK_def, pBox_eq, pBin_add, pBin_sub, pBin_mul, pBin_eql, pBin_neq, pBin_lss, pBin_leq, pBin_gtr, pBin_geq, pUn_not, pUn_neg, eqB, neB, eqS, neS, pExtract0, pExtract1, pExtract2, max_int, min_int, sz_nw, sz_wr, sz_drew, mm_nw, fz_nw, mm_drew, fz_drew, fz_wr, sz_mkS, mm_mkS, fz_mkS, Fr.mkS, mm_wr_same, mm_wr_ne, wr_wr, bs_oneT, splice_full, gt_zero, gt_succ, gt_set, gt_bs, byte_eq0, byte_eq1, byte_n0, byte_n1, Fr.refl, Fr.nw, Fr.wr, Fr.drew, bl4, -bsl22, c2', c7]
      refine (crash_spec (kept := kept) hS9.isd (hk.fr0 hS9.fr) hkF).call ?_
      rintro _ w10 ⟨hd10, f10⟩
      have h9t : tot (Lp1 ++ Lp) + (290 - tot (Lp1 ++ Lp)) = 290 := hS9.laid.1
      have hpt : tot (Lp1 ++ Lp) = tot Lp1 + tot Lp := tot_append _ _
      obtain ⟨hcC, hpC, k, hkL, R, hA, hR⟩ := front_crash (N := 300) (fr := 7) (ln := 290) (left := 290 - tot Lp1) (D := D9) (es1 := Lp1.map (fun x : List UInt8 × Value => x.1)) (es2 := Lp.map (fun x : List UInt8 × Value => x.1)) kept hS9.calm (by omega) ht290 (by show tot Lp ≤ _; omega)
        (fun i hi => by rw [hS9.firm]; exact hbase i hi) hS9.pend
        (fun e he => by obtain ⟨p, hp, rfl⟩ := List.mem_map.1 he; exact q5 p hp)
        (fun e he => by obtain ⟨p, hp, rfl⟩ := List.mem_map.1 he; exact hS9.short p (List.mem_append_right _ hp))
      rw [List.length_map] at hkL
      have hes : Lp1.map (·.1) ++ (Lp.map (·.1)).take k = ((Lp1 ++ Lp).take (Lp1.length + k)).map (·.1) := by
        rw [← List.map_take, ← List.map_append, List.take_length_add_append]
      rw [hes] at hA
      obtain ⟨E, hE⟩ : ∃ E, E = (Lp1 ++ Lp).take (Lp1.length + k) := ⟨_, rfl⟩
      rw [← hE] at hA
      have hEl : E.length = Lp1.length + k := by rw [hE, List.length_take, List.length_append]; omega
      have hEs : ∀ e ∈ E.map (·.1), e.length ≤ 3840 := fun e he => by
        obtain ⟨p, hp, rfl⟩ := List.mem_map.1 he
        rw [hE] at hp
        exact hS9.short p (List.mem_of_mem_take hp)
      obtain ⟨D11, ho11, hc11, hp11, hlaid11, hw11, hat11, htl, hsc11⟩ := front_open (N := 300) (fr := 7) (ln := 290) hcC hpC (by omega) (by omega) hA hR hEs
      have hs9 := lt_of_fz hS9.zcb
      have hm10 : mm w10 (sz w4) = [i64 7, i64 290] := by rw [f10.mm hs9 (fun hk => (hS9.hF _ hk).2 rfl), hS9.mcb]
      have hs10 := f10.lt hs9
      have g10 : Fr [] w w10 := hS9.fr.trans f10 (fun k hk => .inr (hS9.hF k hk).1)
      try simp (maxDischargeDepth := 8) [↓bindV_some, ↓bindU_some, ↓condE_true, ↓condE_false, ↓pickE_true, ↓pickE_false, ↓pickE_or, ↓pickE_and, ↓grdE_true, ↓grdE_false, ↓grdE_tf, ↓grdE_ft, ↓grdE_undef, ↓nilE_pt, ↓thenK_normal, ↓thenK_exit, ↓thenK_ret, ↓thenK_goto, ↓thenK_panic, ↓blockK_exit, ↓blockK_normal, ↓blockK_ret, ↓blockK_goto, ↓blockK_panic, ↓loopK_normal, ↓loopK_exit, ↓loopK_ret, ↓loopK_goto, ↓loopK_panic, ↓topK_ret, ↓topK_normal, ↓topK_panic, ↓resVs_nil, ↓resVs_tmp, ↓resVs_cell, tup_one, tup_nil, tup_two, put_get, argE_get, ↓takeE_def, ↓heldE_nil, ↓heldE_cons, qNil_pt, qPick_bool, qGrd_bool, qGrd_undef, ↓letK_def, pBox_eq, pBin_add, pBin_sub, pBin_mul, pBin_eql, pBin_neq, pBin_lss, pBin_leq, pBin_gtr, pBin_geq, pUn_not, pUn_neg, eqB, neB, eqS, neS, pExtract0, pExtract1, pExtract2, max_int, min_int, sz_nw, sz_wr, sz_drew, mm_nw, fz_nw, mm_drew, fz_drew, fz_wr, sz_mkS, mm_mkS, fz_mkS, Fr.mkS, mm_wr_same, mm_wr_ne, wr_wr, bs_oneT, splice_full, gt_zero, gt_succ, gt_set, gt_bs, byte_eq0, byte_eq1, byte_n0, byte_n1, Fr.refl, Fr.nw, Fr.wr, Fr.drew, bl4, -bsl22, c7, c9, hm10, hs10]
      have hwC : (crashD D9 kept).writes = D9.writes := rfl
      have hpCl : (crashD D9 kept).pend.length = 0 := by rw [hpC]; rfl
      have hwr9 := hS9.wrs
      have hop2 : Ret P 45 #[pt b 0, .agg #[i64 7, i64 290]] w10 _ := open_rspec (fr := ((7 : Nat) : Int)) (ln := ((290 : Nat) : Int)) hd10 (by omega) (by omega) (fun _ => by omega) (by omega) (by omega)
      refine hop2.call ?_
      rintro _ w11 ⟨F11, hO⟩
      obtain ⟨r2, ov2, Lp2, rfl, hro11, hrw11, hrF11, hE11, hLp11, hk11, hk11'⟩ := hO.good (by rw [ho11])
      have hd11 : IsD w11 b D11 F11 := by have := hO.isd; rw [ho11] at this; exact this
      rw [hat11] at hro11
      simp only [Int.toNat_natCast] at hLp11
      rw [hsc11] at hLp11
      have g11 : Fr [] w w11 := g10.trans hO.grow.fr (fun k hk => .inr (hS9.hF k hk).1)
      have hF11 : ∀ k ∈ F11, sz w ≤ k ∧ k ≠ sz w4 := fun k hk => by
        rcases hO.grow.new k hk with h | h
        · exact hS9.hF k h
        · have := g10.size; omega
      have hL2E : Lp2.length = E.length := by have := congrArg List.length hLp11; simpa using this
      have hown11 : w11.ownsRow (sz w) 22 1 wv9 (Lp1 ++ Lp).length ((Lp1 ++ Lp).map (·.2)) := own_fr (own_fr hS9.own f10 (fun c hc => (hS9.apart c hc).1)) hO.grow.fr (fun c hc => (hS9.apart c hc).1)
      obtain ⟨T, hT, hTr⟩ := sl_to67 (k := Lp2.length) (own_rd hown11) (by simp) (by rw [hL2E, hEl, List.length_append]; omega)
      obtain ⟨wa9, wc9, hwv9⟩ := own_sl hS9.own
      have hlw9 : ∀ w, pBuiltin P .len #[67] 3 [wv9] w = some (i64 (Lp1 ++ Lp).length, w) := fun w => by rw [hwv9]; exact len67
      obtain ⟨oa, oc, hov2⟩ := own_val hE11.own
      have hlo2 : ∀ w, pBuiltin P .len #[67] 3 [ov2] w = some (i64 Lp2.length, w) := fun w => by rw [hov2]; exact len67
      obtain ⟨n2, hn2⟩ : ∃ n2, n2 = Lp2.length := ⟨_, rfl⟩
      obtain ⟨n1, hn1⟩ : ∃ n1, n1 = Lp1.length := ⟨_, rfl⟩
      obtain ⟨n9, hn9⟩ : ∃ n9, n9 = (Lp1 ++ Lp).length := ⟨_, rfl⟩
      have hn9' : n9 = Lp1.length + Lp.length := by rw [hn9, List.length_append]
      rw [← hn2] at hT hlo2
      rw [← hn9] at hlw9
      rw [← hn1] at c16
      have d1 : ((n2 : Int) < n1) = False := eq_false (by omega)
      have d1' : (n2 < n1) = False := eq_false (by omega)
      have d2 : ((n9 : Int) < n2) = False := eq_false (by omega)
      have d2' : (n9 < n2) = False := eq_false (by omega)
      try simp (maxDischargeDepth := 8) [↓bindV_some, ↓bindU_some, ↓condE_true, ↓condE_false, ↓pickE_true, ↓pickE_false, ↓pickE_or, ↓pickE_and, ↓grdE_true, ↓grdE_false, ↓grdE_tf, ↓grdE_ft, ↓grdE_undef, ↓nilE_pt, ↓thenK_normal, ↓thenK_exit, ↓thenK_ret, ↓thenK_goto, ↓thenK_panic, ↓blockK_exit, ↓blockK_normal, ↓blockK_ret, ↓blockK_goto, ↓blockK_panic, ↓loopK_normal, ↓loopK_exit, ↓loopK_ret, ↓loopK_goto, ↓loopK_panic, ↓topK_ret, ↓topK_normal, ↓topK_panic, ↓resVs_nil, ↓resVs_tmp, ↓resVs_cell, tup_one, tup_nil, tup_two, put_get, argE_get, ↓takeE_def, ↓heldE_nil, ↓heldE_cons, qNil_pt, qPick_bool, qGrd_bool, qGrd_undef, ↓letK_def, pBox_eq, pBin_add, pBin_sub, pBin_mul, pBin_eql, pBin_neq, pBin_lss, pBin_leq, pBin_gtr, pBin_geq, pUn_not, pUn_neg, eqB, neB, eqS, neS, pExtract0, pExtract1, pExtract2, max_int, min_int, sz_nw, sz_wr, sz_drew, mm_nw, fz_nw, mm_drew, fz_drew, fz_wr, sz_mkS, mm_mkS, fz_mkS, Fr.mkS, mm_wr_same, mm_wr_ne, wr_wr, bs_oneT, splice_full, gt_zero, gt_succ, gt_set, gt_bs, byte_eq0, byte_eq1, byte_n0, byte_n1, Fr.refl, Fr.nw, Fr.wr, Fr.drew, bl4, -bsl22, hlo2, hlw9, c13, c16, d1, d1', d2, d2', hT]
      have hTE : IsE w11 T E := by
        refine ⟨?_, fun p hp => ?_⟩
        · have h1 : ((Lp1 ++ Lp).map (·.2)).take Lp2.length = E.map (·.2) := by rw [hE, List.map_take, hL2E, hEl]
          rw [h1, hL2E] at hTr
          exact hTr
        · rw [hE] at hp
          exact (hS9.el p (List.mem_of_mem_take hp)).fr0 g11
      refine (same19_spec hE11.isE hTE).call ?_
      rintro _ w12 ⟨rfl, f12⟩
      have hdd : decide (Lp2.map (·.1) = E.map (·.1)) = true := by simpa using hLp11
      rw [hdd]
      obtain ⟨X, hX⟩ : ∃ X, X = mkS (nw w12 (bs B) 5) (sz w12) := ⟨_, rfl⟩
      have fX : Fr [] w12 X := by rw [hX]; exact ((Fr.refl [] w12).nw _ _).mkS (.inr (Nat.le_refl _))
      have hXs : sz X = sz w12 + 1 := by rw [hX, sz_mkS, sz_nw]
      have hbv : RdV X (sl (sz w12) 0 4 4) B.length (bs B) := by
        rw [hBl, hX]
        refine .inr ⟨sz w12, 0, 4, rfl, Nat.le_refl _, by unfold maxLen; omega, by rw [sz_mkS, sz_nw]; omega, by rw [mm_mkS, mm_nw, if_pos rfl, Nat.zero_add]; exact Nat.le_refl _, by rw [mm_mkS, mm_nw, if_pos rfl, List.drop_zero, List.take_length]⟩
      have qX := f12.trans0 fX
      obtain ⟨lf, hlf⟩ : ∃ lf, lf = 290 - total (E.map (·.1)) := ⟨_, rfl⟩
      try simp (maxDischargeDepth := 8) [↓bindV_some, ↓bindU_some, ↓condE_true, ↓condE_false, ↓pickE_true, ↓pickE_false, ↓pickE_or, ↓pickE_and, ↓grdE_true, ↓grdE_false, ↓grdE_tf, ↓grdE_ft, ↓grdE_undef, ↓nilE_pt, ↓thenK_normal, ↓thenK_exit, ↓thenK_ret, ↓thenK_goto, ↓thenK_panic, ↓blockK_exit, ↓blockK_normal, ↓blockK_ret, ↓blockK_goto, ↓blockK_panic, ↓loopK_normal, ↓loopK_exit, ↓loopK_ret, ↓loopK_goto, ↓loopK_panic, ↓topK_ret, ↓topK_normal, ↓topK_panic, ↓resVs_nil, ↓resVs_tmp, ↓resVs_cell, tup_one, tup_nil, tup_two, put_get, argE_get, ↓takeE_def, ↓heldE_nil, ↓heldE_cons, qNil_pt, qPick_bool, qGrd_bool, qGrd_undef, ↓letK_def, pBox_eq, pBin_add, pBin_sub, pBin_mul, pBin_eql, pBin_neq, pBin_lss, pBin_leq, pBin_gtr, pBin_geq, pUn_not, pUn_neg, eqB, neB, eqS, neS, pExtract0, pExtract1, pExtract2, max_int, min_int, sz_nw, sz_wr, sz_drew, mm_nw, fz_nw, mm_drew, fz_drew, fz_wr, sz_mkS, mm_mkS, fz_mkS, Fr.mkS, mm_wr_same, mm_wr_ne, wr_wr, bs_oneT, splice_full, gt_zero, gt_succ, gt_set, gt_bs, byte_eq0, byte_eq1, byte_n0, byte_n1, Fr.refl, Fr.nw, Fr.wr, Fr.drew, bl4, -bsl22, ← hX]
      have hlf12 := left_spec (hro11.fr qX (by simp)) (by omega) (by omega) (by omega)
      have hlq : ((290 : Nat) : Int) - ((total (E.map (·.1)) : Nat) : Int) = (lf : Int) := by omega
      rw [hlq] at hlf12
      refine hlf12.call ?_
      rintro _ w13 ⟨rfl, f13⟩
      have q13 := qX.trans0 f13
      have g13 : Fr [] w w13 := g11.trans0 q13
      by_cases hz : lf = 0
      · have c0 : (lf = 0) = True := eq_true hz
        have c0' : ((lf : Int) = 0) = True := eq_true (by omega)
        try simp (maxDischargeDepth := 8) [↓bindV_some, ↓bindU_some, ↓condE_true, ↓condE_false, ↓pickE_true, ↓pickE_false, ↓pickE_or, ↓pickE_and, ↓grdE_true, ↓grdE_false, ↓grdE_tf, ↓grdE_ft, ↓grdE_undef, ↓nilE_pt, ↓thenK_normal, ↓thenK_exit, ↓thenK_ret, ↓thenK_goto, ↓thenK_panic, ↓blockK_exit, ↓blockK_normal, ↓blockK_ret, ↓blockK_goto, ↓blockK_panic, ↓loopK_normal, ↓loopK_exit, ↓loopK_ret, ↓loopK_goto, ↓loopK_panic, ↓topK_ret, ↓topK_normal, ↓topK_panic, ↓resVs_nil, ↓resVs_tmp, ↓resVs_cell, tup_one, tup_nil, tup_two, put_get, argE_get, ↓takeE_def, ↓heldE_nil, ↓heldE_cons, qNil_pt, qPick_bool, qGrd_bool, qGrd_undef, ↓letK_def, pBox_eq, pBin_add, pBin_sub, pBin_mul, pBin_eql, pBin_neq, pBin_lss, pBin_leq, pBin_gtr, pBin_geq, pUn_not, pUn_neg, eqB, neB, eqS, neS, pExtract0, pExtract1, pExtract2, max_int, min_int, sz_nw, sz_wr, sz_drew, mm_nw, fz_nw, mm_drew, fz_drew, fz_wr, sz_mkS, mm_mkS, fz_mkS, Fr.mkS, mm_wr_same, mm_wr_ne, wr_wr, bs_oneT, splice_full, gt_zero, gt_succ, gt_set, gt_bs, byte_eq0, byte_eq1, byte_n0, byte_n1, Fr.refl, Fr.nw, Fr.wr, Fr.drew, bl4, -bsl22, c0, c0']
        exact g13
      have c0 : (lf = 0) = False := eq_false hz
      have c0' : ((lf : Int) = 0) = False := eq_false (by omega)
      try simp (maxDischargeDepth := 8) [↓bindV_some, ↓bindU_some, ↓condE_true, ↓condE_false, ↓pickE_true, ↓pickE_false, ↓pickE_or, ↓pickE_and, ↓grdE_true, ↓grdE_false, ↓grdE_tf, ↓grdE_ft, ↓grdE_undef, ↓nilE_pt, ↓thenK_normal, ↓thenK_exit, ↓thenK_ret, ↓thenK_goto, ↓thenK_panic, ↓blockK_exit, ↓blockK_normal, ↓blockK_ret, ↓blockK_goto, ↓blockK_panic, ↓loopK_normal, ↓loopK_exit, ↓loopK_ret, ↓loopK_goto, ↓loopK_panic, ↓topK_ret, ↓topK_normal, ↓topK_panic, ↓resVs_nil, ↓resVs_tmp, ↓resVs_cell, tup_one, tup_nil, tup_two, put_get, argE_get, ↓takeE_def, ↓heldE_nil, ↓heldE_cons, qNil_pt, qPick_bool, qGrd_bool, qGrd_undef, ↓letK_def, pBox_eq, pBin_add, pBin_sub, pBin_mul, pBin_eql, pBin_neq, pBin_lss, pBin_leq, pBin_gtr, pBin_geq, pUn_not, pUn_neg, eqB, neB, eqS, neS, pExtract0, pExtract1, pExtract2, max_int, min_int, sz_nw, sz_wr, sz_drew, mm_nw, fz_nw, mm_drew, fz_drew, fz_wr, sz_mkS, mm_mkS, fz_mkS, Fr.mkS, mm_wr_same, mm_wr_ne, wr_wr, bs_oneT, splice_full, gt_zero, gt_succ, gt_set, gt_bs, byte_eq0, byte_eq1, byte_n0, byte_n1, Fr.refl, Fr.nw, Fr.wr, Fr.drew, bl4, -bsl22, c0, c0']
      have hF11lt : ∀ k ∈ F11, k < sz w11 := hd11.ltF
      have hr11 := hro11.lt
      have hs11 := q13.size
      have hs12 := f12.size
      have hbo : ∀ k, (sl (sz w12) 0 4 4).ownBlock = some k → k = sz w12 := fun k hk => by simpa [Value.ownBlock] using hk.symm
      have hbn : ∀ k, (sl (sz w12) 0 4 4).ownBlock = some k → k ∉ F11 := fun k hk hkF => by
        have := hbo k hk
        have := hF11lt k hkF
        omega
      have hbv13 := hbv.fr0 f13
      have hpl11 : D11.pend.length = 0 := by rw [hp11]; rfl
      obtain ⟨D14, hG, hc14, hv14, hpl14, hwl14, hfi14⟩ := appM_ok (N := 300) (fr := 7) (ln := 290) (at_ := total (E.map (·.1))) (B := B) hc11 (by omega) (by omega) (by omega)
      have hap := append_spec (fr := 7) (ln := 290) (at_ := total (E.map (·.1))) (B := B) (hro11.fr q13 (by simp)) (hd11.fr0 q13) hrF11 hbv13 (fun _ => hbn) (by omega) (by omega) (by omega) (by omega) (by omega)
      rw [hG] at hap
      generalize hlast : sl (sz w12) 0 4 4 = lastv at *
      refine hap.call ?_
      rintro _ w14 ⟨F14, hA14⟩
      have hx14 := hA14.val
      simp only at hx14
      subst hx14
      have hro14 : IsRoll w14 r2 b _ _ _ := hA14.roll
      have hd14 : IsD w14 b D14 F14 := hA14.isd
      have hF14 : ∀ k ∈ F14, k ∈ F11 ∨ sz w12 < k := fun k hk => by
        rcases hA14.new k hk with h | h
        · exact .inl h
        · have := f13.size; exact .inr (by omega)
      try simp (maxDischargeDepth := 8) [↓bindV_some, ↓bindU_some, ↓condE_true, ↓condE_false, ↓pickE_true, ↓pickE_false, ↓pickE_or, ↓pickE_and, ↓grdE_true, ↓grdE_false, ↓grdE_tf, ↓grdE_ft, ↓grdE_undef, ↓nilE_pt, ↓thenK_normal, ↓thenK_exit, ↓thenK_ret, ↓thenK_goto, ↓thenK_panic, ↓blockK_exit, ↓blockK_normal, ↓blockK_ret, ↓blockK_goto, ↓blockK_panic, ↓loopK_normal, ↓loopK_exit, ↓loopK_ret, ↓loopK_goto, ↓loopK_panic, ↓topK_ret, ↓topK_normal, ↓topK_panic, ↓resVs_nil, ↓resVs_tmp, ↓resVs_cell, tup_one, tup_nil, tup_two, put_get, argE_get, ↓takeE_def, ↓heldE_nil, ↓heldE_cons, qNil_pt, qPick_bool, qGrd_bool, qGrd_undef, ↓letK_def, pBox_eq, pBin_add, pBin_sub, pBin_mul, pBin_eql, pBin_neq, pBin_lss, pBin_leq, pBin_gtr, pBin_geq, pUn_not, pUn_neg, eqB, neB, eqS, neS, pExtract0, pExtract1, pExtract2, max_int, min_int, sz_nw, sz_wr, sz_drew, mm_nw, fz_nw, mm_drew, fz_drew, fz_wr, sz_mkS, mm_mkS, fz_mkS, Fr.mkS, mm_wr_same, mm_wr_ne, wr_wr, bs_oneT, splice_full, gt_zero, gt_succ, gt_set, gt_bs, byte_eq0, byte_eq1, byte_n0, byte_n1, Fr.refl, Fr.nw, Fr.wr, Fr.drew, bl4, -bsl22]
      refine (rsyncR_spec hro14 hd14).call ?_
      rintro _ w15 ⟨rfl, hd15, f15⟩
      obtain ⟨hc15, hp15, hv15, _⟩ := sync_calm hc14
      rw [if_neg (by simp [hc14.down])]
      have hs14 := hA14.fr'.size
      have hs10' : sz w4 < sz w11 := hO.grow.fr.lt hs10
      have hcb14 : sz w4 ∉ r2 :: F11 := fun hk => by
        rcases List.mem_cons.1 hk with h | h
        · have := f10.size; have := hO.grow.fr.size; omega
        · exact (hF11 _ h).2 rfl
      have hcb15 : sz w4 ∉ F14 := fun hk => by
        rcases hF14 _ hk with h | h
        · exact (hF11 _ h).2 rfl
        · omega
      have hm11 : mm w11 (sz w4) = [i64 7, i64 290] := by rw [hO.grow.fr.mm hs10 (fun hk => (hS9.hF _ hk).2 rfl), hm10]
      have hm13 : mm w13 (sz w4) = [i64 7, i64 290] := by rw [q13.mm hs10' (by simp), hm11]
      have hm14 : mm w14 (sz w4) = [i64 7, i64 290] := by rw [hA14.fr'.mm (q13.lt hs10') hcb14, hm13]
      have hs14' := hA14.fr'.lt (q13.lt hs10')
      have hm15 : mm w15 (sz w4) = [i64 7, i64 290] := by rw [f15.mm hs14' hcb15, hm14]
      try simp (maxDischargeDepth := 8) [↓bindV_some, ↓bindU_some, ↓condE_true, ↓condE_false, ↓pickE_true, ↓pickE_false, ↓pickE_or, ↓pickE_and, ↓grdE_true, ↓grdE_false, ↓grdE_tf, ↓grdE_ft, ↓grdE_undef, ↓nilE_pt, ↓thenK_normal, ↓thenK_exit, ↓thenK_ret, ↓thenK_goto, ↓thenK_panic, ↓blockK_exit, ↓blockK_normal, ↓blockK_ret, ↓blockK_goto, ↓blockK_panic, ↓loopK_normal, ↓loopK_exit, ↓loopK_ret, ↓loopK_goto, ↓loopK_panic, ↓topK_ret, ↓topK_normal, ↓topK_panic, ↓resVs_nil, ↓resVs_tmp, ↓resVs_cell, tup_one, tup_nil, tup_two, put_get, argE_get, ↓takeE_def, ↓heldE_nil, ↓heldE_cons, qNil_pt, qPick_bool, qGrd_bool, qGrd_undef, ↓letK_def, pBox_eq, pBin_add, pBin_sub, pBin_mul, pBin_eql, pBin_neq, pBin_lss, pBin_leq, pBin_gtr, pBin_geq, pUn_not, pUn_neg, eqB, neB, eqS, neS, pExtract0, pExtract1, pExtract2, max_int, min_int, sz_nw, sz_wr, sz_drew, mm_nw, fz_nw, mm_drew, fz_drew, fz_wr, sz_mkS, mm_mkS, fz_mkS, Fr.mkS, mm_wr_same, mm_wr_ne, wr_wr, bs_oneT, splice_full, gt_zero, gt_succ, gt_set, gt_bs, byte_eq0, byte_eq1, byte_n0, byte_n1, Fr.refl, Fr.nw, Fr.wr, Fr.drew, bl4, -bsl22, c7]
      refine (crash_spec (kept := []) hd15 (.inl ⟨none, 0, rfl, rfl, rfl⟩) (fun _ _ _ => rfl)).call ?_
      rintro _ w16 ⟨hd16, f16⟩
      rw [crash_firm hc15 hp15] at hd16
      have hm16 : mm w16 (sz w4) = [i64 7, i64 290] := by rw [f16.mm (f15.lt hs14') hcb15, hm15]
      have hs16 := f16.lt (f15.lt hs14')
      try simp (maxDischargeDepth := 8) [↓bindV_some, ↓bindU_some, ↓condE_true, ↓condE_false, ↓pickE_true, ↓pickE_false, ↓pickE_or, ↓pickE_and, ↓grdE_true, ↓grdE_false, ↓grdE_tf, ↓grdE_ft, ↓grdE_undef, ↓nilE_pt, ↓thenK_normal, ↓thenK_exit, ↓thenK_ret, ↓thenK_goto, ↓thenK_panic, ↓blockK_exit, ↓blockK_normal, ↓blockK_ret, ↓blockK_goto, ↓blockK_panic, ↓loopK_normal, ↓loopK_exit, ↓loopK_ret, ↓loopK_goto, ↓loopK_panic, ↓topK_ret, ↓topK_normal, ↓topK_panic, ↓resVs_nil, ↓resVs_tmp, ↓resVs_cell, tup_one, tup_nil, tup_two, put_get, argE_get, ↓takeE_def, ↓heldE_nil, ↓heldE_cons, qNil_pt, qPick_bool, qGrd_bool, qGrd_undef, ↓letK_def, pBox_eq, pBin_add, pBin_sub, pBin_mul, pBin_eql, pBin_neq, pBin_lss, pBin_leq, pBin_gtr, pBin_geq, pUn_not, pUn_neg, eqB, neB, eqS, neS, pExtract0, pExtract1, pExtract2, max_int, min_int, sz_nw, sz_wr, sz_drew, mm_nw, fz_nw, mm_drew, fz_drew, fz_wr, sz_mkS, mm_mkS, fz_mkS, Fr.mkS, mm_wr_same, mm_wr_ne, wr_wr, bs_oneT, splice_full, gt_zero, gt_succ, gt_set, gt_bs, byte_eq0, byte_eq1, byte_n0, byte_n1, Fr.refl, Fr.nw, Fr.wr, Fr.drew, bl4, -bsl22, c7, c9, hm16, hs16]
      have hscn : Ret P 48 #[pt b 0, .agg #[i64 7, i64 290]] w16 _ := scan_spec (fr := ((7 : Nat) : Int)) (ln := ((290 : Nat) : Int)) hd16
      refine hscn.call ?_
      rintro _ w17 ⟨f17, _, _, hsR⟩
      obtain ⟨ov17, Lp17, rfl, hE17, hLp17⟩ := hsR hc15.down ⟨by omega, by omega, by rw [hc15.len]; omega, by rw [hc15.len]; omega⟩
      have hlaid14 := hlaid11.app (D' := D14) (e := B) (by omega) hv14
      have hlaid15 := hlaid14.congr hv15
      have hsc15 := hlaid15.scan (fun e he => by
        rcases List.mem_append.1 he with he | he
        · exact hEs e he
        · rw [List.mem_singleton] at he; subst he; omega)
      simp only [Int.toNat_natCast] at hLp17 ⊢
      rw [hsc15] at hLp17 ⊢
      simp only at hLp17 ⊢
      -- all that was told stays
      have hwn : sz w ≤ sz w11 := g11.size
      have g14 : Fr [] w w14 := g13.trans hA14.fr' (fun k hk => .inr (by
        rcases List.mem_cons.1 hk with h | h
        · have := g10.size; omega
        · exact (hF11 k h).1))
      have hF14w : ∀ k ∈ F14, sz w ≤ k := fun k hk => by
        rcases hF14 k hk with h | h
        · exact (hF11 k h).1
        · omega
      have g17 : Fr [] w w17 := ((g14.trans f15 (fun k hk => .inr (hF14w k hk))).trans f16 (fun k hk => .inr (hF14w k hk))).trans0 f17
      have nr11 : ∀ k, k < sz w11 → k ≠ r2 → k ∉ F11 → k ∉ r2 :: F11 ∧ k ∉ F14 := fun k k1 k2 k3 => ⟨fun hk => by
          rcases List.mem_cons.1 hk with h | h
          · exact k2 h
          · exact k3 h, fun hk => by
          rcases hF14 k hk with h | h
          · exact k3 h
          · omega⟩
      have hovn : ∀ k, ov2.ownBlock = some k → k ∉ r2 :: F11 ∧ k ∉ F14 := fun k hk => nr11 k (own_lt hE11.own k hk).2 (hk11' k hk).1 (hk11' k hk).2
      have helw : ∀ p ∈ Lp2, ∀ k, p.2.ownBlock = some k → k ∉ r2 :: F11 ∧ k ∉ F14 := fun p hp k hk => nr11 k (hE11.lt p hp k hk).2.1 (hk11 p hp k hk).1 (hk11 p hp k hk).2
      have hI17 : IsE w17 ov2 Lp2 := ((((hE11.isE.fr0 q13).fr hA14.fr' (fun k hk => (hovn k hk).1) (fun p hp k hk => (helw p hp k hk).1)).fr f15 (fun k hk => (hovn k hk).2) (fun p hp k hk => (helw p hp k hk).2)).fr f16 (fun k hk => (hovn k hk).2) (fun p hp k hk => (helw p hp k hk).2)).fr0 f17
      have hlr : sz w12 ∉ r2 :: F11 := fun hk => by
        rcases List.mem_cons.1 hk with h | h
        · omega
        · have := hF11lt _ h; omega
      have hl14 : sz w12 ∉ F14 := fun hk => by
        rcases hF14 _ hk with h | h
        · have := hF11lt _ h; omega
        · omega
      have hb17 : RdV w17 lastv B.length (bs B) := (((hbv13.fr hA14.fr' (fun k hk => by rw [hbo k hk]; exact hlr)).fr f15 (fun k hk => by rw [hbo k hk]; exact hl14)).fr f16 (fun k hk => by rw [hbo k hk]; exact hl14)).fr0 f17
      have hlt17 : ∀ p ∈ Lp2, ∀ k, p.2.ownBlock = some k → k < sz w17 := fun p hp k hk => by
        have := (hE11.lt p hp k hk).2.1
        have := f15.size; have := f16.size; have := f17.size
        omega
      -- the two appends
      have hb0 : ∀ w, pBuildSlice P 67 0 [] w = some (sl (sz w) 0 0 0, nw w [] 22) := fun w => by rw [bsl67 (by omega) (by simp)]; rfl
      have fY : Fr [] w17 (nw w17 [] 22) := (Fr.refl [] w17).nw _ _
      have hm1 : ∀ q ∈ Lp2.map (·.2), q.oneCell' = true := fun q hq => by
        obtain ⟨p, hp, rfl⟩ := List.mem_map.1 hq
        obtain ⟨a, c, hpv⟩ := sl_of (hE11.el p hp)
        rw [hpv]; rfl
      have hn2' : Lp2.length ≤ 60 := by omega
      obtain ⟨x18, w18, hrun18, hown18, hgr18, hx18⟩ := append_own2 (P := P) (t := 67) (ty := 67) (sz w17) sliceE67 hasZero22 cellsOf22 (by rw [zeroL22]; rfl) (by omega) (own_made (w := w17) (e := 22) (size := 1) (Nat.le_refl _)) (by rw [sz_nw]; omega) (hI17.row.fr0 fY) (by simp) hm1
        (by unfold maxLen; omega) (by rw [bytesOf22]; omega)
      have f18 := Fr.of_grown hgr18
      obtain ⟨la, lc, hlv17⟩ := sl_of hb17
      have hb1 : ∀ w, pBuildSlice P 67 1 [(0, lastv)] w = some (sl (sz w) 0 1 1, nw w [lastv] 22) := fun w => by rw [hlv17]; exact b67
      have f19 : Fr [] w18 (nw w18 [lastv] 22) := (Fr.refl [] w18).nw _ _
      have hs18 : sz w17 ≤ sz w18 := (fY.trans f18 (fun k hk => .inr (by
        have : k = sz w17 := by simpa [Value.ownBlock] using hk
        omega))).size
      obtain ⟨x20, w20, hrun20, hown20, hgr20, hx20⟩ := append_own2 (P := P) (t := 67) (ty := 67) (sz w17) sliceE67 hasZero22 cellsOf22 (by rw [zeroL22]; rfl) (by omega) (own_fr hown18 f19 (by simp)) (by rw [sz_nw]; omega) (rd_new w18 [lastv] 22 (n := 1) (by unfold maxLen; omega)) (by simp) (by rw [hlv17]; simp)
        (by unfold maxLen; omega) (by rw [bytesOf22]; omega)
      have f20 := Fr.of_grown hgr20
      have h17a : Fr [] w17 w18 := fY.trans f18 (fun k hk => .inr (by
        have : k = sz w17 := by simpa [Value.ownBlock] using hk
        omega))
      have h17 : Fr [] w17 w20 := (h17a.trans0 f19).trans f20 (fun k hk => .inr (own_lt hown18 k (by simpa using hk)).1)
      have hIf : IsE w20 x20 (Lp2 ++ [(B, lastv)]) := by
        refine ⟨?_, fun p hp => ?_⟩
        · have := own_rd hown20
          rw [List.length_append, List.map_append]
          simpa using this
        · rcases List.mem_append.1 hp with hp | hp
          · exact (hI17.el p hp).fr0 h17
          · rw [List.mem_singleton] at hp; subst hp; exact hb17.fr0 h17
      try simp (maxDischargeDepth := 8) [↓bindV_some, ↓bindU_some, ↓condE_true, ↓condE_false, ↓pickE_true, ↓pickE_false, ↓pickE_or, ↓pickE_and, ↓grdE_true, ↓grdE_false, ↓grdE_tf, ↓grdE_ft, ↓grdE_undef, ↓nilE_pt, ↓thenK_normal, ↓thenK_exit, ↓thenK_ret, ↓thenK_goto, ↓thenK_panic, ↓blockK_exit, ↓blockK_normal, ↓blockK_ret, ↓blockK_goto, ↓blockK_panic, ↓loopK_normal, ↓loopK_exit, ↓loopK_ret, ↓loopK_goto, ↓loopK_panic, ↓topK_ret, ↓topK_normal, ↓topK_panic, ↓resVs_nil, ↓resVs_tmp, ↓resVs_cell, tup_one, tup_nil, tup_two, put_get, argE_get, ↓takeE_def, ↓heldE_nil, ↓heldE_cons, qNil_pt, qPick_bool, qGrd_bool, qGrd_undef, ↓letK_def, pBox_eq, pBin_add, pBin_sub, pBin_mul, pBin_eql, pBin_neq, pBin_lss, pBin_leq, pBin_gtr, pBin_geq, pUn_not, pUn_neg, eqB, neB, eqS, neS, pExtract0, pExtract1, pExtract2, max_int, min_int, sz_nw, sz_wr, sz_drew, mm_nw, fz_nw, mm_drew, fz_drew, fz_wr, sz_mkS, mm_mkS, fz_mkS, Fr.mkS, mm_wr_same, mm_wr_ne, wr_wr, bs_oneT, splice_full, gt_zero, gt_succ, gt_set, gt_bs, byte_eq0, byte_eq1, byte_n0, byte_n1, Fr.refl, Fr.nw, Fr.wr, Fr.drew, bl4, -bsl22, hb0, hb1, hrun18, hrun20, -bsl67]
      refine (same19_spec (hE17.isE.fr0 h17) hIf).call ?_
      rintro _ w21 ⟨rfl, f21⟩
      have hdd2 : decide (Lp17.map (·.1) = (Lp2 ++ [(B, lastv)]).map (·.1)) = true := by
        rw [List.map_append, List.map_singleton]
        simp only [decide_eq_true_eq]
        rw [hLp17, hLp11]
      rw [hdd2]
      exact ⟨rfl, (g17.trans0 h17).trans0 f21⟩
end Go.Proofs.Yticncfkpfpkfoaa
