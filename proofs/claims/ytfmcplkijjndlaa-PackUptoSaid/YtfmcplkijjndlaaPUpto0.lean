/- first and failed: what is caught. -/
import Derived.Test.YtfmcplkijjndlaaPackSp
import Derived.Test.YtfmcplkijjndlaaPackP
import Derived.Test.YtfmcplkijjndlaaWPackUpto
set_option linter.unusedVariables false
set_option linter.unusedSimpArgs false
namespace Go.Proofs.Ytfmcplkijjndlaa
open Go

theorem f70_nil {w : World} {o : Nat} {fv : List Value} (h1 : mm w o = fv) (h2 : fz w o = false) (h5 : fv.length = 2) :
    CallsD P 70 #[pt o 0] .returning w fun x u' w' => x = .returned (.tuple #[]) ∧ u' = .returning ∧ mm w' o = [i64 0, i64 0] ∧ Fr [o] w w' := by
  refine F70ok ?_
  unfold F70
  rw [recV_returning, recM_returning]
  refine caught_nil.call ?_
  rintro _ w1 ⟨rfl, hf⟩
  have ho := lt_of_fz h2
  have e1 : mm w1 o = fv := by rw [hf.mm ho (by simp), h1]
  have e2 : fz w1 o = false := by rw [hf.fz ho (by simp), h2]
  have hsp : splice fv 0 [i64 0, i64 0] = [i64 0, i64 0] := splice_full (by rw [h5]; rfl)
  try simp (maxDischargeDepth := 8) [↓bindV_some, ↓bindU_some, ↓condE_true, ↓condE_false, ↓pickE_true, ↓pickE_false, ↓pickE_or, ↓pickE_and, ↓grdE_true, ↓grdE_false, ↓grdE_tf, ↓grdE_ft, ↓grdE_undef, ↓nilE_pt, ↓thenK_normal, ↓thenK_exit, ↓thenK_ret, ↓thenK_goto, ↓thenK_panic, ↓blockK_exit, ↓blockK_normal, ↓blockK_ret, ↓blockK_goto, ↓blockK_panic, ↓loopK_normal, ↓loopK_exit, ↓loopK_ret, ↓loopK_goto, ↓loopK_panic, ↓topK_ret, ↓topK_normal, ↓topK_panic, ↓resVs_nil, ↓resVs_tmp, ↓resVs_cell, tup_one, tup_nil, tup_two, put_get, argE_get, ↓takeE_def, ↓heldE_nil, ↓heldE_cons, qNil_pt, qPick_bool, qGrd_bool, qGrd_undef, ↓letK_def, pBox_eq, pBin_add, pBin_sub, pBin_mul, pBin_eql, pBin_neq, pBin_lss, pBin_leq, pBin_gtr, pBin_geq, pUn_not, pUn_neg, eqB, neB, eqS, neS, pExtract0, pExtract1, pExtract2, max_int, min_int, sz_nw, sz_wr, sz_drew, mm_nw, fz_nw, mm_drew, fz_drew, fz_wr, sz_mkS, mm_mkS, fz_mkS, Fr.mkS, mm_wr_same, mm_wr_ne, wr_wr, bs_oneT, splice_full, gt_zero, gt_succ, gt_set, gt_bs, byte_eq0, byte_eq1, byte_n0, byte_n1, Fr.refl, Fr.nw, Fr.wr, Fr.drew, e1, e2, h5, hsp]
  exact (hf.mono (by simp)).wr (.inl (by simp)) _
theorem f70_fault {w : World} {o : Nat} {c : Int} {k : Nat} {fv : List Value} (h1 : mm w o = fv) (h2 : fz w o = false) (h5 : fv.length = 2) :
    CallsD P 70 #[pt o 0] (.panicking (faultC c k)) w fun x u' w' => x = .returned (.tuple #[]) ∧ settle u' = .returning ∧ mm w' o = [i64 c, i64 k] ∧ Fr [o] w w' := by
  refine F70ok ?_
  unfold F70
  rw [recV_fresh]
  refine caught_fault.call ?_
  rintro _ w1 ⟨rfl, hf⟩
  have ho := lt_of_fz h2
  have e1 : mm w1 o = fv := by rw [hf.mm ho (by simp), h1]
  have e2 : fz w1 o = false := by rw [hf.fz ho (by simp), h2]
  have hsp : splice fv 0 [i64 c, i64 k] = [i64 c, i64 k] := splice_full (by rw [h5]; rfl)
  try simp (maxDischargeDepth := 8) [↓bindV_some, ↓bindU_some, ↓condE_true, ↓condE_false, ↓pickE_true, ↓pickE_false, ↓pickE_or, ↓pickE_and, ↓grdE_true, ↓grdE_false, ↓grdE_tf, ↓grdE_ft, ↓grdE_undef, ↓nilE_pt, ↓thenK_normal, ↓thenK_exit, ↓thenK_ret, ↓thenK_goto, ↓thenK_panic, ↓blockK_exit, ↓blockK_normal, ↓blockK_ret, ↓blockK_goto, ↓blockK_panic, ↓loopK_normal, ↓loopK_exit, ↓loopK_ret, ↓loopK_goto, ↓loopK_panic, ↓topK_ret, ↓topK_normal, ↓topK_panic, ↓resVs_nil, ↓resVs_tmp, ↓resVs_cell, tup_one, tup_nil, tup_two, put_get, argE_get, ↓takeE_def, ↓heldE_nil, ↓heldE_cons, qNil_pt, qPick_bool, qGrd_bool, qGrd_undef, ↓letK_def, pBox_eq, pBin_add, pBin_sub, pBin_mul, pBin_eql, pBin_neq, pBin_lss, pBin_leq, pBin_gtr, pBin_geq, pUn_not, pUn_neg, eqB, neB, eqS, neS, pExtract0, pExtract1, pExtract2, max_int, min_int, sz_nw, sz_wr, sz_drew, mm_nw, fz_nw, mm_drew, fz_drew, fz_wr, sz_mkS, mm_mkS, fz_mkS, Fr.mkS, mm_wr_same, mm_wr_ne, wr_wr, bs_oneT, splice_full, gt_zero, gt_succ, gt_set, gt_bs, byte_eq0, byte_eq1, byte_n0, byte_n1, Fr.refl, Fr.nw, Fr.wr, Fr.drew, e1, e2, h5, hsp, settle_fresh]
  exact (hf.mono (by simp)).wr (.inl (by simp)) _

/-- What 'first' answers. -/
def firstM (most : Int) (B : List UInt8) : Nat × Nat × Nat :=
  let r := uptoM most B
  if r.2.2 = 0 then (r.1, 0, 0) else (0, r.2.1, r.2.2)
theorem first_spec {w : World} {v : Value} {B : List UInt8} {most : Int} (h : RdV w v B.length (bs B)) (hm : most < 9223372036854775808) :
    Ret P 56 #[v, i64 most] w fun x w' => x = .tuple #[i64 (firstM most B).1, .agg #[i64 (firstM most B).2.2, i64 (firstM most B).2.1]] ∧ Fr [] w w' := by
  refine F56ok ?_
  unfold F56
  obtain ⟨W, hW⟩ : ∃ W, W = drew (nw w [i64 0, i64 0] 44) := ⟨_, rfl⟩
  have fW : Fr [] w W := by rw [hW]; exact ((Fr.refl [] w).nw _ _).drew
  have hsW : sz W = sz w + 1 := by rw [hW]; simp [sz_nw, sz_wr, sz_drew, mm_nw, fz_nw, mm_drew, fz_drew, fz_wr, sz_mkS, mm_mkS, fz_mkS, Fr.mkS, mm_wr_same, mm_wr_ne, wr_wr, bs_oneT, splice_full, gt_zero, gt_succ, gt_set, gt_bs, byte_eq0, byte_eq1, byte_n0, byte_n1, Fr.refl, Fr.nw, Fr.wr, Fr.drew]
  have m1 : mm W (sz w) = [i64 0, i64 0] := by rw [hW]; simp [sz_nw, sz_wr, sz_drew, mm_nw, fz_nw, mm_drew, fz_drew, fz_wr, sz_mkS, mm_mkS, fz_mkS, Fr.mkS, mm_wr_same, mm_wr_ne, wr_wr, bs_oneT, splice_full, gt_zero, gt_succ, gt_set, gt_bs, byte_eq0, byte_eq1, byte_n0, byte_n1, Fr.refl, Fr.nw, Fr.wr, Fr.drew]
  have m2 : fz W (sz w) = false := by rw [hW]; simp [sz_nw, sz_wr, sz_drew, mm_nw, fz_nw, mm_drew, fz_drew, fz_wr, sz_mkS, mm_mkS, fz_mkS, Fr.mkS, mm_wr_same, mm_wr_ne, wr_wr, bs_oneT, splice_full, gt_zero, gt_succ, gt_set, gt_bs, byte_eq0, byte_eq1, byte_n0, byte_n1, Fr.refl, Fr.nw, Fr.wr, Fr.drew]
  have l1 : sz w < sz W := by omega
  try simp (maxDischargeDepth := 8) [↓bindV_some, ↓bindU_some, ↓condE_true, ↓condE_false, ↓pickE_true, ↓pickE_false, ↓pickE_or, ↓pickE_and, ↓grdE_true, ↓grdE_false, ↓grdE_tf, ↓grdE_ft, ↓grdE_undef, ↓nilE_pt, ↓thenK_normal, ↓thenK_exit, ↓thenK_ret, ↓thenK_goto, ↓thenK_panic, ↓blockK_exit, ↓blockK_normal, ↓blockK_ret, ↓blockK_goto, ↓blockK_panic, ↓loopK_normal, ↓loopK_exit, ↓loopK_ret, ↓loopK_goto, ↓loopK_panic, ↓topK_ret, ↓topK_normal, ↓topK_panic, ↓resVs_nil, ↓resVs_tmp, ↓resVs_cell, tup_one, tup_nil, tup_two, put_get, argE_get, ↓takeE_def, ↓heldE_nil, ↓heldE_cons, qNil_pt, qPick_bool, qGrd_bool, qGrd_undef, ↓letK_def, pBox_eq, pBin_add, pBin_sub, pBin_mul, pBin_eql, pBin_neq, pBin_lss, pBin_leq, pBin_gtr, pBin_geq, pUn_not, pUn_neg, eqB, neB, eqS, neS, pExtract0, pExtract1, pExtract2, max_int, min_int, sz_nw, sz_wr, sz_drew, mm_nw, fz_nw, mm_drew, fz_drew, fz_wr, sz_mkS, mm_mkS, fz_mkS, Fr.mkS, mm_wr_same, mm_wr_ne, wr_wr, bs_oneT, splice_full, gt_zero, gt_succ, gt_set, gt_bs, byte_eq0, byte_eq1, byte_n0, byte_n1, Fr.refl, Fr.nw, Fr.wr, Fr.drew, ← hW, m1, l1]
  refine (new62_spec (h.fr0 fW)).call ?_
  rintro _ w1 ⟨rfl, hr, hf1, hs1⟩
  have m3 : mm w1 (sz w) = [i64 0, i64 0] := by rw [hf1.mm l1 (by simp), m1]
  have m4 : fz w1 (sz w) = false := by rw [hf1.fz l1 (by simp), m2]
  have l2 : sz w < sz w1 := hf1.lt l1
  try simp (maxDischargeDepth := 8) [↓bindV_some, ↓bindU_some, ↓condE_true, ↓condE_false, ↓pickE_true, ↓pickE_false, ↓pickE_or, ↓pickE_and, ↓grdE_true, ↓grdE_false, ↓grdE_tf, ↓grdE_ft, ↓grdE_undef, ↓nilE_pt, ↓thenK_normal, ↓thenK_exit, ↓thenK_ret, ↓thenK_goto, ↓thenK_panic, ↓blockK_exit, ↓blockK_normal, ↓blockK_ret, ↓blockK_goto, ↓blockK_panic, ↓loopK_normal, ↓loopK_exit, ↓loopK_ret, ↓loopK_goto, ↓loopK_panic, ↓topK_ret, ↓topK_normal, ↓topK_panic, ↓resVs_nil, ↓resVs_tmp, ↓resVs_cell, tup_one, tup_nil, tup_two, put_get, argE_get, ↓takeE_def, ↓heldE_nil, ↓heldE_cons, qNil_pt, qPick_bool, qGrd_bool, qGrd_undef, ↓letK_def, pBox_eq, pBin_add, pBin_sub, pBin_mul, pBin_eql, pBin_neq, pBin_lss, pBin_leq, pBin_gtr, pBin_geq, pUn_not, pUn_neg, eqB, neB, eqS, neS, pExtract0, pExtract1, pExtract2, max_int, min_int, sz_nw, sz_wr, sz_drew, mm_nw, fz_nw, mm_drew, fz_drew, fz_wr, sz_mkS, mm_mkS, fz_mkS, Fr.mkS, mm_wr_same, mm_wr_ne, wr_wr, bs_oneT, splice_full, gt_zero, gt_succ, gt_set, gt_bs, byte_eq0, byte_eq1, byte_n0, byte_n1, Fr.refl, Fr.nw, Fr.wr, Fr.drew, m3, l2]
  have hup := upto_spec (most := most) hr hm
  rw [List.drop_zero] at hup
  have hne : sz w ≠ sz W := by omega
  unfold firstM
  generalize uptoM most B = r at *
  obtain ⟨n, z, c⟩ := r
  refine hup.call ?_ ?_
  · rintro _ w2 ⟨hc, rfl, hr2, hf2⟩
    simp only at hc
    subst hc
    simp only [if_true]
    have m5 : mm w2 (sz w) = [i64 0, i64 0] := by rw [hf2.mm l2 (by simpa using hne), m3]
    have m6 : fz w2 (sz w) = false := by rw [hf2.fz l2 (by simpa using hne), m4]
    have l3 : sz w < sz w2 := hf2.lt l2
    have hsp : splice [i64 0, i64 0] 0 [i64 0, i64 0] = [i64 0, i64 0] := splice_full rfl
    obtain ⟨X, hX⟩ : ∃ X, X = wr w2 (sz w) [i64 0, i64 0] := ⟨_, rfl⟩
    have fX : Fr [sz w] w2 X := by rw [hX]; exact (Fr.refl _ _).wr (.inl (by simp)) _
    have x1 : mm X (sz w) = [i64 0, i64 0] := by rw [hX, mm_wr_same m6]
    have x2 : fz X (sz w) = false := by rw [hX, fz_wr, m6]
    try simp (maxDischargeDepth := 8) [↓bindV_some, ↓bindU_some, ↓condE_true, ↓condE_false, ↓pickE_true, ↓pickE_false, ↓pickE_or, ↓pickE_and, ↓grdE_true, ↓grdE_false, ↓grdE_tf, ↓grdE_ft, ↓grdE_undef, ↓nilE_pt, ↓thenK_normal, ↓thenK_exit, ↓thenK_ret, ↓thenK_goto, ↓thenK_panic, ↓blockK_exit, ↓blockK_normal, ↓blockK_ret, ↓blockK_goto, ↓blockK_panic, ↓loopK_normal, ↓loopK_exit, ↓loopK_ret, ↓loopK_goto, ↓loopK_panic, ↓topK_ret, ↓topK_normal, ↓topK_panic, ↓resVs_nil, ↓resVs_tmp, ↓resVs_cell, tup_one, tup_nil, tup_two, put_get, argE_get, ↓takeE_def, ↓heldE_nil, ↓heldE_cons, qNil_pt, qPick_bool, qGrd_bool, qGrd_undef, ↓letK_def, pBox_eq, pBin_add, pBin_sub, pBin_mul, pBin_eql, pBin_neq, pBin_lss, pBin_leq, pBin_gtr, pBin_geq, pUn_not, pUn_neg, eqB, neB, eqS, neS, pExtract0, pExtract1, pExtract2, max_int, min_int, sz_nw, sz_wr, sz_drew, mm_nw, fz_nw, mm_drew, fz_drew, fz_wr, sz_mkS, mm_mkS, fz_mkS, Fr.mkS, mm_wr_same, mm_wr_ne, wr_wr, bs_oneT, splice_full, gt_zero, gt_succ, gt_set, gt_bs, byte_eq0, byte_eq1, byte_n0, byte_n1, Fr.refl, Fr.nw, Fr.wr, Fr.drew, m5, l3, hsp, m6, ← hX]
    refine leaveE_def (CallsD.mono (f70_nil x1 x2 rfl) ?_)
    rintro x u' w4 ⟨rfl, rfl, y1, hf4⟩
    refine ⟨_, rfl, settle_returning, ?_⟩
    try simp (maxDischargeDepth := 8) [↓bindV_some, ↓bindU_some, ↓condE_true, ↓condE_false, ↓pickE_true, ↓pickE_false, ↓pickE_or, ↓pickE_and, ↓grdE_true, ↓grdE_false, ↓grdE_tf, ↓grdE_ft, ↓grdE_undef, ↓nilE_pt, ↓thenK_normal, ↓thenK_exit, ↓thenK_ret, ↓thenK_goto, ↓thenK_panic, ↓blockK_exit, ↓blockK_normal, ↓blockK_ret, ↓blockK_goto, ↓blockK_panic, ↓loopK_normal, ↓loopK_exit, ↓loopK_ret, ↓loopK_goto, ↓loopK_panic, ↓topK_ret, ↓topK_normal, ↓topK_panic, ↓resVs_nil, ↓resVs_tmp, ↓resVs_cell, tup_one, tup_nil, tup_two, put_get, argE_get, ↓takeE_def, ↓heldE_nil, ↓heldE_cons, qNil_pt, qPick_bool, qGrd_bool, qGrd_undef, ↓letK_def, pBox_eq, pBin_add, pBin_sub, pBin_mul, pBin_eql, pBin_neq, pBin_lss, pBin_leq, pBin_gtr, pBin_geq, pUn_not, pUn_neg, eqB, neB, eqS, neS, pExtract0, pExtract1, pExtract2, max_int, min_int, sz_nw, sz_wr, sz_drew, mm_nw, fz_nw, mm_drew, fz_drew, fz_wr, sz_mkS, mm_mkS, fz_mkS, Fr.mkS, mm_wr_same, mm_wr_ne, wr_wr, bs_oneT, splice_full, gt_zero, gt_succ, gt_set, gt_bs, byte_eq0, byte_eq1, byte_n0, byte_n1, Fr.refl, Fr.nw, Fr.wr, Fr.drew, put_get, y1]
    exact ((((fW.trans0 hf1).trans hf2 (fun k hk => .inr (by simp at hk; omega))).trans fX (fun k hk => .inr (by simp at hk; omega)))).trans hf4 (fun k hk => .inr (by simp at hk; omega))
  · rintro ch w2 ⟨hc, rfl, hf2⟩
    simp only at hc
    have m5 : mm w2 (sz w) = [i64 0, i64 0] := by rw [hf2.mm l2 (by simpa using hne), m3]
    have m6 : fz w2 (sz w) = false := by rw [hf2.fz l2 (by simpa using hne), m4]
    simp only [if_neg hc]
    intro e' ha
    rw [Nat.zero_add]
    have e4 := ha 4 (by decide)
    have e5 := ha 5 (by decide)
    simp only [put_get, if_true, if_false] at e4 e5
    refine leaveE_def (CallsD.mono (f70_fault m5 m6 rfl) ?_)
    rintro x u' w4 ⟨rfl, hs, y1, hf4⟩
    refine ⟨_, rfl, hs, ?_⟩
    try simp (maxDischargeDepth := 8) [↓bindV_some, ↓bindU_some, ↓condE_true, ↓condE_false, ↓pickE_true, ↓pickE_false, ↓pickE_or, ↓pickE_and, ↓grdE_true, ↓grdE_false, ↓grdE_tf, ↓grdE_ft, ↓grdE_undef, ↓nilE_pt, ↓thenK_normal, ↓thenK_exit, ↓thenK_ret, ↓thenK_goto, ↓thenK_panic, ↓blockK_exit, ↓blockK_normal, ↓blockK_ret, ↓blockK_goto, ↓blockK_panic, ↓loopK_normal, ↓loopK_exit, ↓loopK_ret, ↓loopK_goto, ↓loopK_panic, ↓topK_ret, ↓topK_normal, ↓topK_panic, ↓resVs_nil, ↓resVs_tmp, ↓resVs_cell, tup_one, tup_nil, tup_two, put_get, argE_get, ↓takeE_def, ↓heldE_nil, ↓heldE_cons, qNil_pt, qPick_bool, qGrd_bool, qGrd_undef, ↓letK_def, pBox_eq, pBin_add, pBin_sub, pBin_mul, pBin_eql, pBin_neq, pBin_lss, pBin_leq, pBin_gtr, pBin_geq, pUn_not, pUn_neg, eqB, neB, eqS, neS, pExtract0, pExtract1, pExtract2, max_int, min_int, sz_nw, sz_wr, sz_drew, mm_nw, fz_nw, mm_drew, fz_drew, fz_wr, sz_mkS, mm_mkS, fz_mkS, Fr.mkS, mm_wr_same, mm_wr_ne, wr_wr, bs_oneT, splice_full, gt_zero, gt_succ, gt_set, gt_bs, byte_eq0, byte_eq1, byte_n0, byte_n1, Fr.refl, Fr.nw, Fr.wr, Fr.drew, e4, e5, y1]
    exact ((fW.trans0 hf1).trans hf2 (fun k hk => .inr (by simp at hk; omega))).trans hf4 (fun k hk => .inr (by simp at hk; omega))
end Go.Proofs.Ytfmcplkijjndlaa
