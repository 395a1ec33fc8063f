/- The document's disk: Sync. -/
import Derived.Test.YticncfkpfpkfoaaRef17
set_option linter.unusedVariables false
set_option linter.unusedSimpArgs false
namespace Go.Proofs.Yticncfkpfpkfoaa
open Go

theorem syncF_now {D : DD} (h : WfD D) : syncF D.firm D.pend = nowD D := by
  apply List.ext_getElem?
  intro i
  by_cases hi : i < D.firm.length
  · rw [nowD_get hi]
    have := sync_view (f := D.firm) (L := D.pend) (fun p hp => (h.pend p hp).2) i
    rw [List.getD_eq_getElem?_getD] at this
    have hl : i < (syncF D.firm D.pend).length := by rw [syncF_len']; exact hi
    rw [List.getElem?_eq_getElem hl] at this ⊢
    simp only [Option.getD_some] at this
    rw [this]
    simp [view, readD]
  · rw [List.getElem?_eq_none (by rw [syncF_len']; omega), List.getElem?_eq_none (by rw [nowD_length]; omega)]
theorem now_pend_nil {D : DD} (h : D.pend = []) : nowD D = D.firm := by
  apply List.ext_getElem?
  intro i
  by_cases hi : i < D.firm.length
  · rw [nowD_get hi, view_firm h]; simp [hi]
  · rw [List.getElem?_eq_none (by rw [nowD_length]; omega), List.getElem?_eq_none (by omega)]
def mix (A B : List (List UInt8)) (j : Nat) : List (List UInt8) := A.take j ++ B.drop j
theorem mix_zero (A B : List (List UInt8)) : mix A B 0 = B := by simp [mix]
theorem mix_all {A B : List (List UInt8)} (h : A.length = B.length) : mix A B A.length = A := by rw [mix, List.take_length, List.drop_eq_nil_of_le (by omega), List.append_nil]
theorem mix_length {A B : List (List UInt8)} (h : A.length = B.length) (j : Nat) : (mix A B j).length = B.length := by simp [mix]; omega
theorem mix_succ {A B : List (List UInt8)} {s : List UInt8} {j : Nat} (h : A.length = B.length) (hs : A[j]? = some s) : (mix A B j).set j s = mix A B (j + 1) := by
  have hj := (List.getElem?_eq_some_iff.1 hs).1
  apply List.ext_getElem?
  intro i
  simp only [mix, List.getElem?_set, List.getElem?_append, List.length_append, List.length_take, List.length_drop, List.getElem?_take, List.getElem?_drop]
  by_cases hij : j = i
  · subst hij
    have a1 : j < min j A.length + (B.length - j) := by omega
    have a2 : j < min (j + 1) A.length := by omega
    simp [a1, a2, hs]
  · by_cases hlt : i < j
    · have a1 : i < min j A.length := by omega
      have a2 : i < min (j + 1) A.length := by omega
      have a3 : i < j + 1 := by omega
      simp [hij, hlt, a1, a2, a3]
    · have a1 : ¬ i < min j A.length := by omega
      have a2 : ¬ i < min (j + 1) A.length := by omega
      have e1 : j + (i - min j A.length) = i := by omega
      have e2 : j + 1 + (i - min (j + 1) A.length) = i := by omega
      simp [hij, a1, a2, e1, e2]
theorem mix_secs {A B : List (List UInt8)} (hA : ∀ s ∈ A, s.length = 64) (hB : ∀ s ∈ B, s.length = 64) (j : Nat) : ∀ s ∈ mix A B j, s.length = 64 := by
  intro s hs
  simp only [mix, List.mem_append] at hs
  rcases hs with h | h
  · exact hA s (List.mem_of_mem_take h)
  · exact hB s (List.mem_of_mem_drop h)

def RSyncI (w : World) (b fb : Nat) (D : DD) (m : Nat) (e : Env) (w' : World) : Prop :=
  ∃ j, m = D.firm.length - j ∧ j ≤ D.firm.length ∧ Fr [fb] w w' ∧ mm w' fb = flat bs (mix (nowD D) D.firm j) ∧ fz w' fb = false ∧ e 3 = i64 j ∧ e 0 = pt b 0

theorem rsync_spec {w : World} {b : Nat} {D : DD} {F : List Nat} (h : IsR w b D F) :
    Ret P 68 #[pt b 0] w fun v w' => v = i64 (if D.down then 14 else 0) ∧ IsR w' b (syncD D) F ∧ Fr F w w' := by
  refine F68ok ?_
  unfold F68
  have hh := h
  obtain ⟨hw, fb, nb, av, wv, h1, h2, h3, h4, h5, h6, h7, h8, n1, n2, n3, n4, n5, m1, m2, m3, m4, m5, m6⟩ := h
  cases hd : D.down with
  | true =>
    have hs : syncD D = D := by unfold syncD; rw [if_pos hd]
    try simp (maxDischargeDepth := 8) [↓bindV_some, ↓bindU_some, ↓condE_true, ↓condE_false, ↓pickE_true, ↓pickE_false, ↓pickE_or, ↓pickE_and, ↓grdE_true, ↓grdE_false, ↓grdE_tf, ↓grdE_ft, ↓grdE_undef, ↓nilE_pt, ↓thenK_normal, ↓thenK_exit, ↓thenK_ret, ↓thenK_goto, ↓thenK_panic, ↓blockK_exit, ↓blockK_normal, ↓blockK_ret, ↓blockK_goto, ↓blockK_panic, ↓loopK_normal, ↓loopK_exit, ↓loopK_ret, ↓loopK_goto, ↓loopK_panic, ↓topK_ret, ↓topK_normal, ↓topK_panic, ↓resVs_nil, ↓resVs_tmp, ↓resVs_cell, tup_one, tup_nil, tup_two, put_get, argE_get, ↓takeE_def, ↓heldE_nil, ↓heldE_cons, qNil_pt, qPick_bool, qGrd_bool, qGrd_undef, ↓letK_def, pBox_eq, pBin_add, pBin_sub, pBin_mul, pBin_eql, pBin_neq, pBin_lss, pBin_leq, pBin_gtr, pBin_geq, pUn_not, pUn_neg, eqB, neB, eqS, neS, pExtract0, pExtract1, pExtract2, max_int, min_int, sz_nw, sz_wr, sz_drew, mm_nw, fz_nw, mm_drew, fz_drew, fz_wr, sz_mkS, mm_mkS, fz_mkS, Fr.mkS, mm_wr_same, mm_wr_ne, wr_wr, bs_oneT, splice_full, gt_zero, gt_succ, gt_set, gt_bs, byte_eq0, byte_eq1, byte_n0, byte_n1, Fr.refl, Fr.nw, Fr.wr, Fr.drew, h1, hd, hs]
    exact hh
  | false =>
    have hsy : syncD D = { D with firm := nowD D, pend := [] } := by unfold syncD; rw [if_neg (by rw [hd]; simp), syncF_now hw]
    have hwf := wf_sync hw
    try simp (maxDischargeDepth := 8) [↓bindV_some, ↓bindU_some, ↓condE_true, ↓condE_false, ↓pickE_true, ↓pickE_false, ↓pickE_or, ↓pickE_and, ↓grdE_true, ↓grdE_false, ↓grdE_tf, ↓grdE_ft, ↓grdE_undef, ↓nilE_pt, ↓thenK_normal, ↓thenK_exit, ↓thenK_ret, ↓thenK_goto, ↓thenK_panic, ↓blockK_exit, ↓blockK_normal, ↓blockK_ret, ↓blockK_goto, ↓blockK_panic, ↓loopK_normal, ↓loopK_exit, ↓loopK_ret, ↓loopK_goto, ↓loopK_panic, ↓topK_ret, ↓topK_normal, ↓topK_panic, ↓resVs_nil, ↓resVs_tmp, ↓resVs_cell, tup_one, tup_nil, tup_two, put_get, argE_get, ↓takeE_def, ↓heldE_nil, ↓heldE_cons, qNil_pt, qPick_bool, qGrd_bool, qGrd_undef, ↓letK_def, pBox_eq, pBin_add, pBin_sub, pBin_mul, pBin_eql, pBin_neq, pBin_lss, pBin_leq, pBin_gtr, pBin_geq, pUn_not, pUn_neg, eqB, neB, eqS, neS, pExtract0, pExtract1, pExtract2, max_int, min_int, sz_nw, sz_wr, sz_drew, mm_nw, fz_nw, mm_drew, fz_drew, fz_wr, sz_mkS, mm_mkS, fz_mkS, Fr.mkS, mm_wr_same, mm_wr_ne, wr_wr, bs_oneT, splice_full, gt_zero, gt_succ, gt_set, gt_bs, byte_eq0, byte_eq1, byte_n0, byte_n1, Fr.refl, Fr.nw, Fr.wr, Fr.drew, h1, hd]
    refine loopE_of (RSyncI w b fb D) D.firm.length ?_ ?_
    · exact ⟨0, by omega, by omega, Fr.refl _ _, by rw [mix_zero]; exact h3, h4, by simp [put_get, argE_get]⟩
    · rintro m e w' ⟨j, rfl, hj, hf, hmf, hzf, e3, e0⟩
      unfold F68B0
      have hbn : b ∉ [fb] := by simpa using n1
      have hnn : nb ∉ [fb] := by simpa using (fun e => n3 e.symm : nb ≠ fb)
      have hblt := m6 b m1
      have hmb : mm w' b = [sl fb 0 D.firm.length D.firm.length, sl nb 0 D.firm.length D.firm.length, av, wv, i64 D.left, .bool D.down, i64 D.writes] := by rw [hf.mm hblt hbn, h1]
      have hzb : fz w' b = false := by rw [hf.fz hblt hbn, h2]
      have hmn : mm w' nb = flat bs (nowD D) := by rw [hf.mm (m6 nb m3) hnn, h5]
      have hzn : fz w' nb = false := by rw [hf.fz (m6 nb m3) hnn, h6]
      by_cases hjl : j < D.firm.length
      · have hji : (j : Int) < D.firm.length := by omega
        have hle := hw.len
        have hwj : IntKind.i64.wrap ((j : Int) + 1) = ((j + 1 : Nat) : Int) := wrap64 (by omega) (by omega)
        have hns := nowD_secs hw
        have hcell : List.take 64 (List.drop (j * 64) (flat bs (nowD D))) = bs (view D j) := flat_take_drop (bs_len hns) (nowD_get hjl)
        have hfl := flat_length (bs_len hns)
        rw [nowD_length] at hfl
        have hms := mix_secs hns hw.secs j
        have hflm := flat_length (bs_len hms)
        rw [mix_length (nowD_length D)] at hflm
        have h64 : j * 64 + 64 ≤ D.firm.length * 64 := by
          have := Nat.mul_le_mul_right 64 (show j + 1 ≤ D.firm.length by omega)
          omega
        have hvl : (view D j).length = 64 := readD_len hw (by omega) (by omega)
        have hset : splice (flat bs (mix (nowD D) D.firm j)) (j * 64) (bs (view D j)) = flat bs (mix (nowD D) D.firm (j + 1)) := by
          rw [flat_set (n := 64) (y := view D j) (bs_len hms) (by rw [mix_length (nowD_length D)]; exact hjl) (by simp [hvl]) rfl, mix_succ (nowD_length D) (nowD_get hjl)]
        try simp (maxDischargeDepth := 8) [↓bindV_some, ↓bindU_some, ↓condE_true, ↓condE_false, ↓pickE_true, ↓pickE_false, ↓pickE_or, ↓pickE_and, ↓grdE_true, ↓grdE_false, ↓grdE_tf, ↓grdE_ft, ↓grdE_undef, ↓nilE_pt, ↓thenK_normal, ↓thenK_exit, ↓thenK_ret, ↓thenK_goto, ↓thenK_panic, ↓blockK_exit, ↓blockK_normal, ↓blockK_ret, ↓blockK_goto, ↓blockK_panic, ↓loopK_normal, ↓loopK_exit, ↓loopK_ret, ↓loopK_goto, ↓loopK_panic, ↓topK_ret, ↓topK_normal, ↓topK_panic, ↓resVs_nil, ↓resVs_tmp, ↓resVs_cell, tup_one, tup_nil, tup_two, put_get, argE_get, ↓takeE_def, ↓heldE_nil, ↓heldE_cons, qNil_pt, qPick_bool, qGrd_bool, qGrd_undef, ↓letK_def, pBox_eq, pBin_add, pBin_sub, pBin_mul, pBin_eql, pBin_neq, pBin_lss, pBin_leq, pBin_gtr, pBin_geq, pUn_not, pUn_neg, eqB, neB, eqS, neS, pExtract0, pExtract1, pExtract2, max_int, min_int, sz_nw, sz_wr, sz_drew, mm_nw, fz_nw, mm_drew, fz_drew, fz_wr, sz_mkS, mm_mkS, fz_mkS, Fr.mkS, mm_wr_same, mm_wr_ne, wr_wr, bs_oneT, splice_full, gt_zero, gt_succ, gt_set, gt_bs, byte_eq0, byte_eq1, byte_n0, byte_n1, Fr.refl, Fr.nw, Fr.wr, Fr.drew, hmb, e3, e0, hji, hjl, hmn, hcell, hfl, hmf, hzf, hflm, h64, hvl, hset, hwj, List.take_of_length_le, -Int.natCast_add]
        refine ⟨D.firm.length - (j + 1), by omega, j + 1, rfl, by omega, (hf.drew).wr (.inl (by simp)) _, ?_, ?_, by simp [put_get, e3, e0]⟩
        · simp [sz_nw, sz_wr, sz_drew, mm_nw, fz_nw, mm_drew, fz_drew, fz_wr, sz_mkS, mm_mkS, fz_mkS, Fr.mkS, mm_wr_same, mm_wr_ne, wr_wr, bs_oneT, splice_full, gt_zero, gt_succ, gt_set, gt_bs, byte_eq0, byte_eq1, byte_n0, byte_n1, Fr.refl, Fr.nw, Fr.wr, Fr.drew, hzf]
        · simp [sz_nw, sz_wr, sz_drew, mm_nw, fz_nw, mm_drew, fz_drew, fz_wr, sz_mkS, mm_mkS, fz_mkS, Fr.mkS, mm_wr_same, mm_wr_ne, wr_wr, bs_oneT, splice_full, gt_zero, gt_succ, gt_set, gt_bs, byte_eq0, byte_eq1, byte_n0, byte_n1, Fr.refl, Fr.nw, Fr.wr, Fr.drew, hzf]
      · have hje : j = D.firm.length := by omega
        subst hje
        have hmx : mix (nowD D) D.firm D.firm.length = nowD D := by
          have := mix_all (nowD_length D)
          rwa [nowD_length] at this
        rw [hmx] at hmf
        try simp (maxDischargeDepth := 8) [↓bindV_some, ↓bindU_some, ↓condE_true, ↓condE_false, ↓pickE_true, ↓pickE_false, ↓pickE_or, ↓pickE_and, ↓grdE_true, ↓grdE_false, ↓grdE_tf, ↓grdE_ft, ↓grdE_undef, ↓nilE_pt, ↓thenK_normal, ↓thenK_exit, ↓thenK_ret, ↓thenK_goto, ↓thenK_panic, ↓blockK_exit, ↓blockK_normal, ↓blockK_ret, ↓blockK_goto, ↓blockK_panic, ↓loopK_normal, ↓loopK_exit, ↓loopK_ret, ↓loopK_goto, ↓loopK_panic, ↓topK_ret, ↓topK_normal, ↓topK_panic, ↓resVs_nil, ↓resVs_tmp, ↓resVs_cell, tup_one, tup_nil, tup_two, put_get, argE_get, ↓takeE_def, ↓heldE_nil, ↓heldE_cons, qNil_pt, qPick_bool, qGrd_bool, qGrd_undef, ↓letK_def, pBox_eq, pBin_add, pBin_sub, pBin_mul, pBin_eql, pBin_neq, pBin_lss, pBin_leq, pBin_gtr, pBin_geq, pUn_not, pUn_neg, eqB, neB, eqS, neS, pExtract0, pExtract1, pExtract2, max_int, min_int, sz_nw, sz_wr, sz_drew, mm_nw, fz_nw, mm_drew, fz_drew, fz_wr, sz_mkS, mm_mkS, fz_mkS, Fr.mkS, mm_wr_same, mm_wr_ne, wr_wr, bs_oneT, splice_full, gt_zero, gt_succ, gt_set, gt_bs, byte_eq0, byte_eq1, byte_n0, byte_n1, Fr.refl, Fr.nw, Fr.wr, Fr.drew, hmb, hzb, e3, e0]
        have hp0 : (syncD D).pend = [] := by rw [hsy]
        have hn2 : nowD (syncD D) = nowD D := by rw [now_pend_nil hp0, hsy]
        refine ⟨⟨hwf, fb, nb, .slice none 0 0, .slice none 0 0, ?_, by rw [fz_wr]; exact hzb, ?_, by rw [fz_wr]; exact hzf, ?_, by rw [fz_wr]; exact hzn, ?_, ?_, n1, n2, n3, by simp [Value.ownBlock], by simp [Value.ownBlock], m1, m2, m3, by simp [Value.ownBlock], by simp [Value.ownBlock], fun k hk => by rw [sz_wr]; exact hf.lt (m6 k hk)⟩, ?_⟩
        · rw [mm_wr_same hzb, hsy]; simp [nowD_length, hd]
        · rw [mm_wr_ne (fun e => n1 e.symm), hsy]; exact hmf
        · rw [mm_wr_ne (fun e => n2 e.symm), hn2]; exact hmn
        · have : atL (syncD D) = [] := by unfold atL; rw [hp0]; rfl
          rw [this, hp0]; exact World.ownsRow_nil _ _ _ _
        · have : whL (syncD D) = [] := by unfold whL; rw [hp0]; rfl
          rw [this, hp0]; exact World.ownsRow_nil _ _ _ _
        · exact (hf.mono (T := F) (fun k hk => by simp at hk; subst hk; exact .inl m2)).wr (.inl m1) _
end Go.Proofs.Yticncfkpfpkfoaa
