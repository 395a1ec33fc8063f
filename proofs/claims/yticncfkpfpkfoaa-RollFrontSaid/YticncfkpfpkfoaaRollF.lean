/- Clear, Open (f50, f45). -/
import Derived.Test.YticncfkpfpkfoaaRollE
set_option linter.unusedVariables false
set_option linter.unusedSimpArgs false
namespace Go.Proofs.Yticncfkpfpkfoaa
open Go

theorem scanGo_le : ∀ (f : Nat) (S : List (List UInt8)) (at_ : Nat), (scanGo f S at_).2 ≤ at_ + S.length := by
  intro f
  induction f with
  | zero => intro S at_; exact Nat.le_add_right _ _
  | succ f ih =>
    intro S at_
    cases h : oneM S with
    | none => rw [scanGo_none h]; exact Nat.le_add_right _ _
    | some p =>
      obtain ⟨b, n⟩ := p
      obtain ⟨h1, h2⟩ := oneGo_pos S 0 0 [] b n h
      have := ih (S.drop n) (at_ + n)
      rw [scanGo, h]
      simp only [List.length_drop] at this ⊢
      omega
theorem scanM_le (S : List (List UInt8)) : (scanM S).2 ≤ S.length := by
  have := scanGo_le S.length S 0
  unfold scanM; omega
theorem IsD.ltF {w : World} {b : Nat} {D : DD} {F : List Nat} (h : IsD w b D F) : ∀ k ∈ F, k < sz w := by
  obtain ⟨hw, fb, fc, pv, tl, h1, h2, h3, h4, h5, h6, h7, h8, h9, h10, h11, h12, h13, h14⟩ := h
  exact h14
def clearM (D : DD) (fr ln : Int) : DD × Int := if D.down = true then (D, 14) else if fitsM D.firm.length fr ln then wipeGo ln.toNat D fr false else (D, 1)
theorem clear_spec {w : World} {b : Nat} {D : DD} {F : List Nat} {fr ln : Int} (h : IsD w b D F) (hf0 : -9223372036854775808 ≤ fr) (hf1 : fr < 9223372036854775808) (hl : fitsM D.firm.length fr ln → ln ≤ 1000) (hm : D.pend.length + 1000 < 1000000) (hwr : D.writes + 1000 < 4611686018427387904) :
    Ret P 50 #[pt b 0, ar fr ln] w fun x w' => x = i64 (clearM D fr ln).2 ∧ ∃ F', IsD w' b (clearM D fr ln).1 F' ∧ Grow F w F' w' := by
  refine F50ok ?_
  unfold F50 ar
  have hlen : D.firm.length ≤ 4096 := by obtain ⟨hw, _⟩ := id h; exact hw.len
  obtain ⟨W, hW⟩ : ∃ W, W = nw w [i64 fr, i64 ln] 65 := ⟨_, rfl⟩
  have fW : Fr [] w W := by rw [hW]; exact (Fr.refl [] w).nw _ _
  have hmm : mm W (sz w) = [i64 fr, i64 ln] := by rw [hW]; simp [sz_nw, sz_wr, sz_drew, mm_nw, fz_nw, mm_drew, fz_drew, fz_wr, sz_mkS, mm_mkS, fz_mkS, Fr.mkS, mm_wr_same, mm_wr_ne, wr_wr, bs_oneT, splice_full, gt_zero, gt_succ, gt_set, gt_bs, byte_eq0, byte_eq1, byte_n0, byte_n1, Fr.refl, Fr.nw, Fr.wr, Fr.drew]
  have hs : sz w < sz W := by rw [hW]; simp [sz_nw, sz_wr, sz_drew, mm_nw, fz_nw, mm_drew, fz_drew, fz_wr, sz_mkS, mm_mkS, fz_mkS, Fr.mkS, mm_wr_same, mm_wr_ne, wr_wr, bs_oneT, splice_full, gt_zero, gt_succ, gt_set, gt_bs, byte_eq0, byte_eq1, byte_n0, byte_n1, Fr.refl, Fr.nw, Fr.wr, Fr.drew]
  try simp (maxDischargeDepth := 8) [↓bindV_some, ↓bindU_some, ↓condE_true, ↓condE_false, ↓pickE_true, ↓pickE_false, ↓pickE_or, ↓pickE_and, ↓grdE_true, ↓grdE_false, ↓grdE_tf, ↓grdE_ft, ↓grdE_undef, ↓nilE_pt, ↓thenK_normal, ↓thenK_exit, ↓thenK_ret, ↓thenK_goto, ↓thenK_panic, ↓blockK_exit, ↓blockK_normal, ↓blockK_ret, ↓blockK_goto, ↓blockK_panic, ↓loopK_normal, ↓loopK_exit, ↓loopK_ret, ↓loopK_goto, ↓loopK_panic, ↓topK_ret, ↓topK_normal, ↓topK_panic, ↓resVs_nil, ↓resVs_tmp, ↓resVs_cell, tup_one, tup_nil, tup_two, put_get, argE_get, ↓takeE_def, ↓heldE_nil, ↓heldE_cons, qNil_pt, qPick_bool, qGrd_bool, qGrd_undef, ↓letK_def, pBox_eq, pBin_add, pBin_sub, pBin_mul, pBin_eql, pBin_neq, pBin_lss, pBin_leq, pBin_gtr, pBin_geq, pUn_not, pUn_neg, eqB, neB, eqS, neS, pExtract0, pExtract1, pExtract2, max_int, min_int, sz_nw, sz_wr, sz_drew, mm_nw, fz_nw, mm_drew, fz_drew, fz_wr, sz_mkS, mm_mkS, fz_mkS, Fr.mkS, mm_wr_same, mm_wr_ne, wr_wr, bs_oneT, splice_full, gt_zero, gt_succ, gt_set, gt_bs, byte_eq0, byte_eq1, byte_n0, byte_n1, Fr.refl, Fr.nw, Fr.wr, Fr.drew, ← hW]
  refine (down_spec (h.fr0 fW)).call ?_
  rintro _ w1 ⟨rfl, f1⟩
  have q1 := fW.trans0 f1
  cases hd : D.down with
  | true =>
    have hG : clearM D fr ln = (D, 14) := by unfold clearM; rw [if_pos hd]
    try simp (maxDischargeDepth := 8) [↓bindV_some, ↓bindU_some, ↓condE_true, ↓condE_false, ↓pickE_true, ↓pickE_false, ↓pickE_or, ↓pickE_and, ↓grdE_true, ↓grdE_false, ↓grdE_tf, ↓grdE_ft, ↓grdE_undef, ↓nilE_pt, ↓thenK_normal, ↓thenK_exit, ↓thenK_ret, ↓thenK_goto, ↓thenK_panic, ↓blockK_exit, ↓blockK_normal, ↓blockK_ret, ↓blockK_goto, ↓blockK_panic, ↓loopK_normal, ↓loopK_exit, ↓loopK_ret, ↓loopK_goto, ↓loopK_panic, ↓topK_ret, ↓topK_normal, ↓topK_panic, ↓resVs_nil, ↓resVs_tmp, ↓resVs_cell, tup_one, tup_nil, tup_two, put_get, argE_get, ↓takeE_def, ↓heldE_nil, ↓heldE_cons, qNil_pt, qPick_bool, qGrd_bool, qGrd_undef, ↓letK_def, pBox_eq, pBin_add, pBin_sub, pBin_mul, pBin_eql, pBin_neq, pBin_lss, pBin_leq, pBin_gtr, pBin_geq, pUn_not, pUn_neg, eqB, neB, eqS, neS, pExtract0, pExtract1, pExtract2, max_int, min_int, sz_nw, sz_wr, sz_drew, mm_nw, fz_nw, mm_drew, fz_drew, fz_wr, sz_mkS, mm_mkS, fz_mkS, Fr.mkS, mm_wr_same, mm_wr_ne, wr_wr, bs_oneT, splice_full, gt_zero, gt_succ, gt_set, gt_bs, byte_eq0, byte_eq1, byte_n0, byte_n1, Fr.refl, Fr.nw, Fr.wr, Fr.drew]
    rw [hG]
    exact ⟨rfl, F, h.fr0 q1, (Grow.refl F w).calm q1⟩
  | false =>
    have hd' : ¬ D.down = true := by simp [hd]
    have hm1 : mm w1 (sz w) = [i64 fr, i64 ln] := by rw [f1.mm hs (by simp), hmm]
    have hs1 := f1.lt hs
    try simp (maxDischargeDepth := 8) [↓bindV_some, ↓bindU_some, ↓condE_true, ↓condE_false, ↓pickE_true, ↓pickE_false, ↓pickE_or, ↓pickE_and, ↓grdE_true, ↓grdE_false, ↓grdE_tf, ↓grdE_ft, ↓grdE_undef, ↓nilE_pt, ↓thenK_normal, ↓thenK_exit, ↓thenK_ret, ↓thenK_goto, ↓thenK_panic, ↓blockK_exit, ↓blockK_normal, ↓blockK_ret, ↓blockK_goto, ↓blockK_panic, ↓loopK_normal, ↓loopK_exit, ↓loopK_ret, ↓loopK_goto, ↓loopK_panic, ↓topK_ret, ↓topK_normal, ↓topK_panic, ↓resVs_nil, ↓resVs_tmp, ↓resVs_cell, tup_one, tup_nil, tup_two, put_get, argE_get, ↓takeE_def, ↓heldE_nil, ↓heldE_cons, qNil_pt, qPick_bool, qGrd_bool, qGrd_undef, ↓letK_def, pBox_eq, pBin_add, pBin_sub, pBin_mul, pBin_eql, pBin_neq, pBin_lss, pBin_leq, pBin_gtr, pBin_geq, pUn_not, pUn_neg, eqB, neB, eqS, neS, pExtract0, pExtract1, pExtract2, max_int, min_int, sz_nw, sz_wr, sz_drew, mm_nw, fz_nw, mm_drew, fz_drew, fz_wr, sz_mkS, mm_mkS, fz_mkS, Fr.mkS, mm_wr_same, mm_wr_ne, wr_wr, bs_oneT, splice_full, gt_zero, gt_succ, gt_set, gt_bs, byte_eq0, byte_eq1, byte_n0, byte_n1, Fr.refl, Fr.nw, Fr.wr, Fr.drew, hm1, hs1]
    refine (fits_spec (fr := fr) (ln := ln) ((h.fr0 fW).fr0 f1)).call ?_
    rintro _ w2 ⟨rfl, f2⟩
    have q2 := q1.trans0 f2
    have hm2 : mm w2 (sz w) = [i64 fr, i64 ln] := by rw [f2.mm hs1 (by simp), hm1]
    have hs2 := f2.lt hs1
    by_cases hfit : fitsM D.firm.length fr ln
    · have hft : (fitsM D.firm.length fr ln) = True := eq_true hfit
      have hG : clearM D fr ln = wipeGo ln.toNat D fr false := by unfold clearM; rw [if_neg hd', if_pos hfit]
      obtain ⟨h1, h2, h3, h4⟩ := id hfit
      have hl := hl hfit
      try simp (maxDischargeDepth := 8) [↓bindV_some, ↓bindU_some, ↓condE_true, ↓condE_false, ↓pickE_true, ↓pickE_false, ↓pickE_or, ↓pickE_and, ↓grdE_true, ↓grdE_false, ↓grdE_tf, ↓grdE_ft, ↓grdE_undef, ↓nilE_pt, ↓thenK_normal, ↓thenK_exit, ↓thenK_ret, ↓thenK_goto, ↓thenK_panic, ↓blockK_exit, ↓blockK_normal, ↓blockK_ret, ↓blockK_goto, ↓blockK_panic, ↓loopK_normal, ↓loopK_exit, ↓loopK_ret, ↓loopK_goto, ↓loopK_panic, ↓topK_ret, ↓topK_normal, ↓topK_panic, ↓resVs_nil, ↓resVs_tmp, ↓resVs_cell, tup_one, tup_nil, tup_two, put_get, argE_get, ↓takeE_def, ↓heldE_nil, ↓heldE_cons, qNil_pt, qPick_bool, qGrd_bool, qGrd_undef, ↓letK_def, pBox_eq, pBin_add, pBin_sub, pBin_mul, pBin_eql, pBin_neq, pBin_lss, pBin_leq, pBin_gtr, pBin_geq, pUn_not, pUn_neg, eqB, neB, eqS, neS, pExtract0, pExtract1, pExtract2, max_int, min_int, sz_nw, sz_wr, sz_drew, mm_nw, fz_nw, mm_drew, fz_drew, fz_wr, sz_mkS, mm_mkS, fz_mkS, Fr.mkS, mm_wr_same, mm_wr_ne, wr_wr, bs_oneT, splice_full, gt_zero, gt_succ, gt_set, gt_bs, byte_eq0, byte_eq1, byte_n0, byte_n1, Fr.refl, Fr.nw, Fr.wr, Fr.drew, hft, hm2, hs2]
      have hwp := wipe_spec (x := fr) (ni := ln) (n := ln.toNat) (h.fr0 q2) hf0 hf1 (by omega) (by omega) (by omega) (by omega)
      refine hwp.call ?_
      rintro _ w3 ⟨rfl, F', hd3, hg3⟩
      rw [hG]
      try simp (maxDischargeDepth := 8) [↓bindV_some, ↓bindU_some, ↓condE_true, ↓condE_false, ↓pickE_true, ↓pickE_false, ↓pickE_or, ↓pickE_and, ↓grdE_true, ↓grdE_false, ↓grdE_tf, ↓grdE_ft, ↓grdE_undef, ↓nilE_pt, ↓thenK_normal, ↓thenK_exit, ↓thenK_ret, ↓thenK_goto, ↓thenK_panic, ↓blockK_exit, ↓blockK_normal, ↓blockK_ret, ↓blockK_goto, ↓blockK_panic, ↓loopK_normal, ↓loopK_exit, ↓loopK_ret, ↓loopK_goto, ↓loopK_panic, ↓topK_ret, ↓topK_normal, ↓topK_panic, ↓resVs_nil, ↓resVs_tmp, ↓resVs_cell, tup_one, tup_nil, tup_two, put_get, argE_get, ↓takeE_def, ↓heldE_nil, ↓heldE_cons, qNil_pt, qPick_bool, qGrd_bool, qGrd_undef, ↓letK_def, pBox_eq, pBin_add, pBin_sub, pBin_mul, pBin_eql, pBin_neq, pBin_lss, pBin_leq, pBin_gtr, pBin_geq, pUn_not, pUn_neg, eqB, neB, eqS, neS, pExtract0, pExtract1, pExtract2, max_int, min_int, sz_nw, sz_wr, sz_drew, mm_nw, fz_nw, mm_drew, fz_drew, fz_wr, sz_mkS, mm_mkS, fz_mkS, Fr.mkS, mm_wr_same, mm_wr_ne, wr_wr, bs_oneT, splice_full, gt_zero, gt_succ, gt_set, gt_bs, byte_eq0, byte_eq1, byte_n0, byte_n1, Fr.refl, Fr.nw, Fr.wr, Fr.drew]
      exact ⟨F', hd3, q2.mono (by simp) |>.trans hg3.fr (fun k hk => .inl hk), fun k hk => (hg3.new k hk).imp id (fun h => Nat.le_trans q2.size h)⟩
    · have hft : (fitsM D.firm.length fr ln) = False := eq_false hfit
      have hG : clearM D fr ln = (D, 1) := by unfold clearM; rw [if_neg hd', if_neg hfit]
      try simp (maxDischargeDepth := 8) [↓bindV_some, ↓bindU_some, ↓condE_true, ↓condE_false, ↓pickE_true, ↓pickE_false, ↓pickE_or, ↓pickE_and, ↓grdE_true, ↓grdE_false, ↓grdE_tf, ↓grdE_ft, ↓grdE_undef, ↓nilE_pt, ↓thenK_normal, ↓thenK_exit, ↓thenK_ret, ↓thenK_goto, ↓thenK_panic, ↓blockK_exit, ↓blockK_normal, ↓blockK_ret, ↓blockK_goto, ↓blockK_panic, ↓loopK_normal, ↓loopK_exit, ↓loopK_ret, ↓loopK_goto, ↓loopK_panic, ↓topK_ret, ↓topK_normal, ↓topK_panic, ↓resVs_nil, ↓resVs_tmp, ↓resVs_cell, tup_one, tup_nil, tup_two, put_get, argE_get, ↓takeE_def, ↓heldE_nil, ↓heldE_cons, qNil_pt, qPick_bool, qGrd_bool, qGrd_undef, ↓letK_def, pBox_eq, pBin_add, pBin_sub, pBin_mul, pBin_eql, pBin_neq, pBin_lss, pBin_leq, pBin_gtr, pBin_geq, pUn_not, pUn_neg, eqB, neB, eqS, neS, pExtract0, pExtract1, pExtract2, max_int, min_int, sz_nw, sz_wr, sz_drew, mm_nw, fz_nw, mm_drew, fz_drew, fz_wr, sz_mkS, mm_mkS, fz_mkS, Fr.mkS, mm_wr_same, mm_wr_ne, wr_wr, bs_oneT, splice_full, gt_zero, gt_succ, gt_set, gt_bs, byte_eq0, byte_eq1, byte_n0, byte_n1, Fr.refl, Fr.nw, Fr.wr, Fr.drew, hft]
      rw [hG]
      exact ⟨rfl, F, h.fr0 q2, (Grow.refl F w).calm q2⟩

theorem fOk119 : fieldsOk P 119 = true := by kernel_rfl
theorem bd119 {w : World} {b : Nat} {fr ln at_ : Int} : pBuild P 119 [(0, pt b 0), (1, .agg #[i64 fr, i64 ln]), (2, i64 at_)] w = some (.agg #[pt b 0, i64 fr, i64 ln, i64 at_], w) := by
  rw [pBuild_struct hasZero119 fOk119 (fun p hp => ?_)]
  · simp [offF, splice]
  · simp only [List.mem_cons, List.not_mem_nil, or_false] at hp
    rcases hp with rfl | rfl | rfl
    · exact ⟨0, 34, field119n0, by simp, by simp⟩
    · exact ⟨1, 65, field119n1, by simp, by simp⟩
    · exact ⟨3, 3, field119n2, by simp, by simp⟩
/-- What 'Open' does to the disk, and its error. -/
noncomputable def openAt (D : DD) (fr ln : Int) : Nat := (scanM (areaS D fr.toNat ln.toNat)).2
noncomputable def openM (D : DD) (fr ln : Int) : DD × Int :=
  if D.down = true then (D, 14) else if fitsM D.firm.length fr ln then wipeGo (ln.toNat - openAt D fr ln) D (fr + openAt D fr ln) false else (D, 1)
structure OpenR (w : World) (b : Nat) (D : DD) (fr ln : Int) (F : List Nat) (x : Value) (w' : World) (F' : List Nat) : Prop where
  isd : IsD w' b (openM D fr ln).1 F'
  grow : Grow F w F' w'
  bad : (openM D fr ln).2 ≠ 0 → x = .tuple #[.pointer none, .slice none 0 0, i64 (openM D fr ln).2]
  good : (openM D fr ln).2 = 0 → ∃ r ov Lp, x = .tuple #[pt r 0, ov, i64 0] ∧ IsRoll w' r b fr ln (openAt D fr ln : Int) ∧ sz w ≤ r ∧ r ∉ F' ∧ EntR (sz w) w' ov Lp ∧ Lp.map (·.1) = (scanM (areaS D fr.toNat ln.toNat)).1 ∧
    (∀ p ∈ Lp, ∀ k, p.2.ownBlock = some k → k ≠ r ∧ k ∉ F') ∧ (∀ k, ov.ownBlock = some k → k ≠ r ∧ k ∉ F')
theorem open_rspec {w : World} {b : Nat} {D : DD} {F : List Nat} {fr ln : Int} (h : IsD w b D F) (hf0 : -9223372036854775808 ≤ fr) (hf1 : fr < 9223372036854775808) (hl : fitsM D.firm.length fr ln → ln ≤ 1000) (hm : D.pend.length + 1000 < 1000000) (hwr : D.writes + 1000 < 4611686018427387904) :
    Ret P 45 #[pt b 0, ar fr ln] w fun x w' => ∃ F', OpenR w b D fr ln F x w' F' := by
  refine F45ok ?_
  unfold F45 ar
  have hlen : D.firm.length ≤ 4096 := by obtain ⟨hw, _⟩ := id h; exact hw.len
  have hFlt : ∀ k ∈ F, k < sz w := h.ltF
  obtain ⟨W, hW⟩ : ∃ W, W = nw w [i64 fr, i64 ln] 65 := ⟨_, rfl⟩
  have fW : Fr [] w W := by rw [hW]; exact (Fr.refl [] w).nw _ _
  have hmm : mm W (sz w) = [i64 fr, i64 ln] := by rw [hW]; simp [sz_nw, sz_wr, sz_drew, mm_nw, fz_nw, mm_drew, fz_drew, fz_wr, sz_mkS, mm_mkS, fz_mkS, Fr.mkS, mm_wr_same, mm_wr_ne, wr_wr, bs_oneT, splice_full, gt_zero, gt_succ, gt_set, gt_bs, byte_eq0, byte_eq1, byte_n0, byte_n1, Fr.refl, Fr.nw, Fr.wr, Fr.drew]
  have hs : sz w < sz W := by rw [hW]; simp [sz_nw, sz_wr, sz_drew, mm_nw, fz_nw, mm_drew, fz_drew, fz_wr, sz_mkS, mm_mkS, fz_mkS, Fr.mkS, mm_wr_same, mm_wr_ne, wr_wr, bs_oneT, splice_full, gt_zero, gt_succ, gt_set, gt_bs, byte_eq0, byte_eq1, byte_n0, byte_n1, Fr.refl, Fr.nw, Fr.wr, Fr.drew]
  try simp (maxDischargeDepth := 8) [↓bindV_some, ↓bindU_some, ↓condE_true, ↓condE_false, ↓pickE_true, ↓pickE_false, ↓pickE_or, ↓pickE_and, ↓grdE_true, ↓grdE_false, ↓grdE_tf, ↓grdE_ft, ↓grdE_undef, ↓nilE_pt, ↓thenK_normal, ↓thenK_exit, ↓thenK_ret, ↓thenK_goto, ↓thenK_panic, ↓blockK_exit, ↓blockK_normal, ↓blockK_ret, ↓blockK_goto, ↓blockK_panic, ↓loopK_normal, ↓loopK_exit, ↓loopK_ret, ↓loopK_goto, ↓loopK_panic, ↓topK_ret, ↓topK_normal, ↓topK_panic, ↓resVs_nil, ↓resVs_tmp, ↓resVs_cell, tup_one, tup_nil, tup_two, put_get, argE_get, ↓takeE_def, ↓heldE_nil, ↓heldE_cons, qNil_pt, qPick_bool, qGrd_bool, qGrd_undef, ↓letK_def, pBox_eq, pBin_add, pBin_sub, pBin_mul, pBin_eql, pBin_neq, pBin_lss, pBin_leq, pBin_gtr, pBin_geq, pUn_not, pUn_neg, eqB, neB, eqS, neS, pExtract0, pExtract1, pExtract2, max_int, min_int, sz_nw, sz_wr, sz_drew, mm_nw, fz_nw, mm_drew, fz_drew, fz_wr, sz_mkS, mm_mkS, fz_mkS, Fr.mkS, mm_wr_same, mm_wr_ne, wr_wr, bs_oneT, splice_full, gt_zero, gt_succ, gt_set, gt_bs, byte_eq0, byte_eq1, byte_n0, byte_n1, Fr.refl, Fr.nw, Fr.wr, Fr.drew, ← hW, hmm, hs]
  have hsc := scan_spec (fr := fr) (ln := ln) (h.fr0 fW)
  unfold ar at hsc
  refine hsc.call ?_
  rintro x w1 ⟨f1, x1, x2, x3⟩
  have q1 := fW.trans0 f1
  have hm1 : mm w1 (sz w) = [i64 fr, i64 ln] := by rw [f1.mm hs (by simp), hmm]
  have hs1 := f1.lt hs
  cases hd : D.down with
  | true =>
    have hG : openM D fr ln = (D, 14) := by unfold openM; rw [if_pos hd]
    rw [x1 hd]
    try simp (maxDischargeDepth := 8) [↓bindV_some, ↓bindU_some, ↓condE_true, ↓condE_false, ↓pickE_true, ↓pickE_false, ↓pickE_or, ↓pickE_and, ↓grdE_true, ↓grdE_false, ↓grdE_tf, ↓grdE_ft, ↓grdE_undef, ↓nilE_pt, ↓thenK_normal, ↓thenK_exit, ↓thenK_ret, ↓thenK_goto, ↓thenK_panic, ↓blockK_exit, ↓blockK_normal, ↓blockK_ret, ↓blockK_goto, ↓blockK_panic, ↓loopK_normal, ↓loopK_exit, ↓loopK_ret, ↓loopK_goto, ↓loopK_panic, ↓topK_ret, ↓topK_normal, ↓topK_panic, ↓resVs_nil, ↓resVs_tmp, ↓resVs_cell, tup_one, tup_nil, tup_two, put_get, argE_get, ↓takeE_def, ↓heldE_nil, ↓heldE_cons, qNil_pt, qPick_bool, qGrd_bool, qGrd_undef, ↓letK_def, pBox_eq, pBin_add, pBin_sub, pBin_mul, pBin_eql, pBin_neq, pBin_lss, pBin_leq, pBin_gtr, pBin_geq, pUn_not, pUn_neg, eqB, neB, eqS, neS, pExtract0, pExtract1, pExtract2, max_int, min_int, sz_nw, sz_wr, sz_drew, mm_nw, fz_nw, mm_drew, fz_drew, fz_wr, sz_mkS, mm_mkS, fz_mkS, Fr.mkS, mm_wr_same, mm_wr_ne, wr_wr, bs_oneT, splice_full, gt_zero, gt_succ, gt_set, gt_bs, byte_eq0, byte_eq1, byte_n0, byte_n1, Fr.refl, Fr.nw, Fr.wr, Fr.drew]
    exact ⟨F, by rw [hG]; exact h.fr0 q1, (Grow.refl F w).calm q1, fun _ => by rw [hG], fun h0 => by rw [hG] at h0; simp at h0⟩
  | false =>
    have hd' : ¬ D.down = true := by simp [hd]
    by_cases hfit : fitsM D.firm.length fr ln
    · have hG : openM D fr ln = wipeGo (ln.toNat - openAt D fr ln) D (fr + openAt D fr ln) false := by unfold openM; rw [if_neg hd', if_pos hfit]
      obtain ⟨h1, h2, h3, h4⟩ := id hfit
      have hl := hl hfit
      obtain ⟨ov, Lp, rfl, hE, hLp⟩ := x3 hd hfit
      obtain ⟨at_, hat⟩ : ∃ a, a = openAt D fr ln := ⟨_, rfl⟩
      have hat2 : (scanM (areaS D fr.toNat ln.toNat)).2 = at_ := hat.symm
      have hale : at_ ≤ ln.toNat := by rw [← hat2]; have := scanM_le (areaS D fr.toNat ln.toNat); rw [areaS_len] at this; exact this
      rw [hat2]
      obtain ⟨y1, hy1⟩ : ∃ y1, y1 = fr + (at_ : Int) := ⟨_, rfl⟩
      obtain ⟨y2, hy2⟩ : ∃ y2, y2 = ln - (at_ : Int) := ⟨_, rfl⟩
      have a1 : IntKind.i64.wrap (fr + (at_ : Int)) = y1 := by rw [hy1]; exact wrap64 (by omega) (by omega)
      have a2 : IntKind.i64.wrap (ln - (at_ : Int)) = y2 := by rw [hy2]; exact wrap64 (by omega) (by omega)
      try simp (maxDischargeDepth := 8) [↓bindV_some, ↓bindU_some, ↓condE_true, ↓condE_false, ↓pickE_true, ↓pickE_false, ↓pickE_or, ↓pickE_and, ↓grdE_true, ↓grdE_false, ↓grdE_tf, ↓grdE_ft, ↓grdE_undef, ↓nilE_pt, ↓thenK_normal, ↓thenK_exit, ↓thenK_ret, ↓thenK_goto, ↓thenK_panic, ↓blockK_exit, ↓blockK_normal, ↓blockK_ret, ↓blockK_goto, ↓blockK_panic, ↓loopK_normal, ↓loopK_exit, ↓loopK_ret, ↓loopK_goto, ↓loopK_panic, ↓topK_ret, ↓topK_normal, ↓topK_panic, ↓resVs_nil, ↓resVs_tmp, ↓resVs_cell, tup_one, tup_nil, tup_two, put_get, argE_get, ↓takeE_def, ↓heldE_nil, ↓heldE_cons, qNil_pt, qPick_bool, qGrd_bool, qGrd_undef, ↓letK_def, pBox_eq, pBin_add, pBin_sub, pBin_mul, pBin_eql, pBin_neq, pBin_lss, pBin_leq, pBin_gtr, pBin_geq, pUn_not, pUn_neg, eqB, neB, eqS, neS, pExtract0, pExtract1, pExtract2, max_int, min_int, sz_nw, sz_wr, sz_drew, mm_nw, fz_nw, mm_drew, fz_drew, fz_wr, sz_mkS, mm_mkS, fz_mkS, Fr.mkS, mm_wr_same, mm_wr_ne, wr_wr, bs_oneT, splice_full, gt_zero, gt_succ, gt_set, gt_bs, byte_eq0, byte_eq1, byte_n0, byte_n1, Fr.refl, Fr.nw, Fr.wr, Fr.drew, hm1, hs1, a1, a2]
      have hwp := wipe_spec (x := y1) (ni := y2) (n := ln.toNat - at_) (h.fr0 q1) (by omega) (by omega) (by omega) (by omega) (by omega) (by omega)
      refine hwp.call ?_
      rintro _ w2 ⟨rfl, F', hd2, hg2⟩
      rw [hy1, hat, ← hG] at hd2 ⊢
      have hgw : Grow F w F' w2 := ⟨(q1.mono (T := F) (by simp)).trans hg2.fr (fun k hk => .inl hk), fun k hk => (hg2.new k hk).imp id (fun h => Nat.le_trans q1.size h)⟩
      have hm2 : mm w2 (sz w) = [i64 fr, i64 ln] := by rw [hg2.fr.mm hs1 (fun hk => by have := hFlt _ hk; omega), hm1]
      have hs2 := hg2.fr.lt hs1
      have hE2 : EntR (sz W) w2 ov Lp := hE.fr hg2.fr (fun k hk => by have := hFlt k hk; omega)
      obtain ⟨code, hcode⟩ : ∃ code, code = (openM D fr ln).2 := ⟨_, rfl⟩
      rw [← hcode]
      by_cases hc : code = 0
      · have hc1 : (code = 0) = True := eq_true hc
        try simp (maxDischargeDepth := 8) [↓bindV_some, ↓bindU_some, ↓condE_true, ↓condE_false, ↓pickE_true, ↓pickE_false, ↓pickE_or, ↓pickE_and, ↓grdE_true, ↓grdE_false, ↓grdE_tf, ↓grdE_ft, ↓grdE_undef, ↓nilE_pt, ↓thenK_normal, ↓thenK_exit, ↓thenK_ret, ↓thenK_goto, ↓thenK_panic, ↓blockK_exit, ↓blockK_normal, ↓blockK_ret, ↓blockK_goto, ↓blockK_panic, ↓loopK_normal, ↓loopK_exit, ↓loopK_ret, ↓loopK_goto, ↓loopK_panic, ↓topK_ret, ↓topK_normal, ↓topK_panic, ↓resVs_nil, ↓resVs_tmp, ↓resVs_cell, tup_one, tup_nil, tup_two, put_get, argE_get, ↓takeE_def, ↓heldE_nil, ↓heldE_cons, qNil_pt, qPick_bool, qGrd_bool, qGrd_undef, ↓letK_def, pBox_eq, pBin_add, pBin_sub, pBin_mul, pBin_eql, pBin_neq, pBin_lss, pBin_leq, pBin_gtr, pBin_geq, pUn_not, pUn_neg, eqB, neB, eqS, neS, pExtract0, pExtract1, pExtract2, max_int, min_int, sz_nw, sz_wr, sz_drew, mm_nw, fz_nw, mm_drew, fz_drew, fz_wr, sz_mkS, mm_mkS, fz_mkS, Fr.mkS, mm_wr_same, mm_wr_ne, wr_wr, bs_oneT, splice_full, gt_zero, gt_succ, gt_set, gt_bs, byte_eq0, byte_eq1, byte_n0, byte_n1, Fr.refl, Fr.nw, Fr.wr, Fr.drew, hc1, hm2, hs2, bd119]
        have fN : Fr [] w2 (nw w2 [pt b 0, i64 fr, i64 ln, i64 (openAt D fr ln : Int)] 119) := (Fr.refl [] w2).nw _ _
        have hF'lt : ∀ k ∈ F', k < sz w2 := hd2.ltF
        have hE3 := hE2.fr fN (by simp)
        have hsz2 : sz w ≤ sz w2 := hgw.fr.size
        have hnew : ∀ k, sz W ≤ k → k < sz w1 → k ≠ sz w2 ∧ k ∉ F' := fun k hk hk2 => by
          have := hg2.fr.size
          refine ⟨by omega, fun hkF => ?_⟩
          rcases hg2.new k hkF with h | h
          · have := hFlt k h; omega
          · omega
        refine ⟨F', hd2.fr0 fN, hgw.calm fN, fun h0 => absurd (hcode.symm.trans hc) h0, fun _ => ⟨sz w2, ov, Lp, ?_, ⟨?_, ?_⟩, hsz2, fun hk => by have := hF'lt _ hk; omega, ?_, hLp, fun p hp k hk => ?_, fun k hk => ?_⟩⟩
        · rfl
        · simp [sz_nw, sz_wr, sz_drew, mm_nw, fz_nw, mm_drew, fz_drew, fz_wr, sz_mkS, mm_mkS, fz_mkS, Fr.mkS, mm_wr_same, mm_wr_ne, wr_wr, bs_oneT, splice_full, gt_zero, gt_succ, gt_set, gt_bs, byte_eq0, byte_eq1, byte_n0, byte_n1, Fr.refl, Fr.nw, Fr.wr, Fr.drew]
        · simp [sz_nw, sz_wr, sz_drew, mm_nw, fz_nw, mm_drew, fz_drew, fz_wr, sz_mkS, mm_mkS, fz_mkS, Fr.mkS, mm_wr_same, mm_wr_ne, wr_wr, bs_oneT, splice_full, gt_zero, gt_succ, gt_set, gt_bs, byte_eq0, byte_eq1, byte_n0, byte_n1, Fr.refl, Fr.nw, Fr.wr, Fr.drew]
        · exact ⟨⟨hE3.own.1, by
            rcases hE3.own.2 with h | ⟨g, cap, cur, c1, c2, c3⟩
            · exact .inl h
            · exact .inr ⟨g, cap, cur, c1, by omega, c3⟩⟩, hE3.el, fun p hp k hk => ⟨by have := (hE3.lt p hp k hk).1; omega, (hE3.lt p hp k hk).2.1, (hE3.lt p hp k hk).2.2⟩⟩
        · obtain ⟨k1, k2, _⟩ := hE.lt p hp k hk
          exact hnew k k1 k2
        · obtain ⟨k1, k2⟩ := own_lt hE.own k hk
          exact hnew k k1 k2
      · have hc1 : (code = 0) = False := eq_false hc
        try simp (maxDischargeDepth := 8) [↓bindV_some, ↓bindU_some, ↓condE_true, ↓condE_false, ↓pickE_true, ↓pickE_false, ↓pickE_or, ↓pickE_and, ↓grdE_true, ↓grdE_false, ↓grdE_tf, ↓grdE_ft, ↓grdE_undef, ↓nilE_pt, ↓thenK_normal, ↓thenK_exit, ↓thenK_ret, ↓thenK_goto, ↓thenK_panic, ↓blockK_exit, ↓blockK_normal, ↓blockK_ret, ↓blockK_goto, ↓blockK_panic, ↓loopK_normal, ↓loopK_exit, ↓loopK_ret, ↓loopK_goto, ↓loopK_panic, ↓topK_ret, ↓topK_normal, ↓topK_panic, ↓resVs_nil, ↓resVs_tmp, ↓resVs_cell, tup_one, tup_nil, tup_two, put_get, argE_get, ↓takeE_def, ↓heldE_nil, ↓heldE_cons, qNil_pt, qPick_bool, qGrd_bool, qGrd_undef, ↓letK_def, pBox_eq, pBin_add, pBin_sub, pBin_mul, pBin_eql, pBin_neq, pBin_lss, pBin_leq, pBin_gtr, pBin_geq, pUn_not, pUn_neg, eqB, neB, eqS, neS, pExtract0, pExtract1, pExtract2, max_int, min_int, sz_nw, sz_wr, sz_drew, mm_nw, fz_nw, mm_drew, fz_drew, fz_wr, sz_mkS, mm_mkS, fz_mkS, Fr.mkS, mm_wr_same, mm_wr_ne, wr_wr, bs_oneT, splice_full, gt_zero, gt_succ, gt_set, gt_bs, byte_eq0, byte_eq1, byte_n0, byte_n1, Fr.refl, Fr.nw, Fr.wr, Fr.drew, hc1]
        exact ⟨F', hd2, hgw, fun _ => by rw [hcode], fun h0 => absurd (hcode.trans h0) hc⟩
    · have hG : openM D fr ln = (D, 1) := by unfold openM; rw [if_neg hd', if_neg hfit]
      rw [x2 hd hfit]
      try simp (maxDischargeDepth := 8) [↓bindV_some, ↓bindU_some, ↓condE_true, ↓condE_false, ↓pickE_true, ↓pickE_false, ↓pickE_or, ↓pickE_and, ↓grdE_true, ↓grdE_false, ↓grdE_tf, ↓grdE_ft, ↓grdE_undef, ↓nilE_pt, ↓thenK_normal, ↓thenK_exit, ↓thenK_ret, ↓thenK_goto, ↓thenK_panic, ↓blockK_exit, ↓blockK_normal, ↓blockK_ret, ↓blockK_goto, ↓blockK_panic, ↓loopK_normal, ↓loopK_exit, ↓loopK_ret, ↓loopK_goto, ↓loopK_panic, ↓topK_ret, ↓topK_normal, ↓topK_panic, ↓resVs_nil, ↓resVs_tmp, ↓resVs_cell, tup_one, tup_nil, tup_two, put_get, argE_get, ↓takeE_def, ↓heldE_nil, ↓heldE_cons, qNil_pt, qPick_bool, qGrd_bool, qGrd_undef, ↓letK_def, pBox_eq, pBin_add, pBin_sub, pBin_mul, pBin_eql, pBin_neq, pBin_lss, pBin_leq, pBin_gtr, pBin_geq, pUn_not, pUn_neg, eqB, neB, eqS, neS, pExtract0, pExtract1, pExtract2, max_int, min_int, sz_nw, sz_wr, sz_drew, mm_nw, fz_nw, mm_drew, fz_drew, fz_wr, sz_mkS, mm_mkS, fz_mkS, Fr.mkS, mm_wr_same, mm_wr_ne, wr_wr, bs_oneT, splice_full, gt_zero, gt_succ, gt_set, gt_bs, byte_eq0, byte_eq1, byte_n0, byte_n1, Fr.refl, Fr.nw, Fr.wr, Fr.drew]
      exact ⟨F, by rw [hG]; exact h.fr0 q1, (Grow.refl F w).calm q1, fun _ => by rw [hG], fun h0 => by rw [hG] at h0; simp at h0⟩
end Go.Proofs.Yticncfkpfpkfoaa
