/- The document's disk: Crash. -/
import Derived.Test.YticncfkpfpkfoaaRef17d
set_option linter.unusedVariables false
set_option linter.unusedSimpArgs false
namespace Go.Proofs.Yticncfkpfpkfoaa
open Go

def ROutI (w : World) (b fb : Nat) (kv : Value) (D : DD) (kept : List Int) (m : Nat) (e : Env) (w' : World) : Prop :=
  ∃ i, m = D.pend.length - i ∧ i ≤ D.pend.length ∧ Fr [fb] w w' ∧ mm w' fb = flat bs (crashF kept D.firm 0 (D.pend.take i)) ∧ fz w' fb = false ∧ e 4 = i64 i ∧ e 0 = pt b 0 ∧ e 1 = kv
def RNowI (w : World) (b nb : Nat) (A B : List (List UInt8)) (m : Nat) (e : Env) (w' : World) : Prop :=
  ∃ j, m = B.length - j ∧ j ≤ B.length ∧ Fr [nb] w w' ∧ mm w' nb = flat bs (mix A B j) ∧ fz w' nb = false ∧ e 6 = i64 j ∧ e 0 = pt b 0

theorem rcrash_spec {w : World} {b : Nat} {D : DD} {F : List Nat} {kv : Value} {kept : List Int} (h : IsR w b D F) (hk : RdV w kv kept.length (kept.map (Value.int .i64)))
    (hkF : ∀ k, kv.ownBlock = some k → k ∈ F → kept.length = 0) :
    Ret P 70 #[pt b 0, kv] w fun v w' => IsR w' b (crashD D kept) F ∧ Fr F w w' := by
  refine F70ok ?_
  unfold F70
  have hwf := wf_crash h.1 kept
  obtain ⟨hw, fb, nb, av, wv, h1, h2, h3, h4, h5, h6, h7, h8, n1, n2, n3, n4, n5, m1, m2, m3, m4, m5, m6⟩ := h
  have hmany := hw.many
  have hle := hw.len
  obtain ⟨aa, ac, hav⟩ := own_sl h7
  refine loopE_of (ROutI w b fb kv D kept) D.pend.length ?_ ?_
  · exact ⟨0, by omega, by omega, Fr.refl _ _, h3, h4, by simp [put_get, argE_get]⟩
  · rintro m e w' ⟨i, rfl, hi, hf, hmf, hzf, e4, e0, e1⟩
    unfold F70B0
    have hbn : b ∉ [fb] := by simpa using n1
    have hnn : nb ∉ [fb] := by simpa using (fun e => n3 e.symm : nb ≠ fb)
    have hmb : mm w' b = [sl fb 0 D.firm.length D.firm.length, sl nb 0 D.firm.length D.firm.length, av, wv, i64 D.left, .bool D.down, i64 D.writes] := by rw [hf.mm (m6 b m1) hbn, h1]
    have hzb : fz w' b = false := by rw [hf.fz (m6 b m1) hbn, h2]
    have hmn : mm w' nb = flat bs (nowD D) := by rw [hf.mm (m6 nb m3) hnn, h5]
    have hzn : fz w' nb = false := by rw [hf.fz (m6 nb m3) hnn, h6]
    by_cases hil : i < D.pend.length
    · have hii : (i : Int) < D.pend.length := by omega
      have hwi : IntKind.i64.wrap ((i : Int) + 1) = ((i + 1 : Nat) : Int) := wrap64 (by omega) (by omega)
      obtain ⟨p, hp⟩ : ∃ p, D.pend[i]? = some p := ⟨_, List.getElem?_eq_getElem hil⟩
      obtain ⟨hpl, hp0, hp1⟩ := hw.pend p (List.mem_of_getElem? hp)
      have hGs : ∀ s ∈ crashF kept D.firm 0 (D.pend.take i), s.length = 64 := crashF_secs kept _ _ _ hw.secs fun q hq => hw.pend q (List.mem_of_mem_take hq)
      have hGl : (crashF kept D.firm 0 (D.pend.take i)).length = D.firm.length := crashF_length _ _ _ _
      obtain ⟨old, hold⟩ : ∃ old, (crashF kept D.firm 0 (D.pend.take i))[p.1.toNat]? = some old := ⟨_, List.getElem?_eq_getElem (by rw [hGl]; omega)⟩
      have hsnoc : crashF kept D.firm 0 (D.pend.take (i + 1)) = (crashF kept D.firm 0 (D.pend.take i)).set p.1.toNat (tear old p.2 (clampN kept i)) := by
        rw [List.take_add_one, hp]
        simp only [Option.toList_some]
        rw [crashF_snoc, List.length_take, Nat.zero_add, Nat.min_eq_left (by omega), List.getD_eq_getElem?_getD, hold]; rfl
      have hcl64 : clampN kept i ≤ 64 := by unfold clampN; split <;> omega
      try simp (maxDischargeDepth := 8) [↓bindV_some, ↓bindU_some, ↓condE_true, ↓condE_false, ↓pickE_true, ↓pickE_false, ↓pickE_or, ↓pickE_and, ↓grdE_true, ↓grdE_false, ↓grdE_tf, ↓grdE_ft, ↓grdE_undef, ↓nilE_pt, ↓thenK_normal, ↓thenK_exit, ↓thenK_ret, ↓thenK_goto, ↓thenK_panic, ↓blockK_exit, ↓blockK_normal, ↓blockK_ret, ↓blockK_goto, ↓blockK_panic, ↓loopK_normal, ↓loopK_exit, ↓loopK_ret, ↓loopK_goto, ↓loopK_panic, ↓topK_ret, ↓topK_normal, ↓topK_panic, ↓resVs_nil, ↓resVs_tmp, ↓resVs_cell, tup_one, tup_nil, tup_two, put_get, argE_get, ↓takeE_def, ↓heldE_nil, ↓heldE_cons, qNil_pt, qPick_bool, qGrd_bool, qGrd_undef, ↓letK_def, pBox_eq, pBin_add, pBin_sub, pBin_mul, pBin_eql, pBin_neq, pBin_lss, pBin_leq, pBin_gtr, pBin_geq, pUn_not, pUn_neg, eqB, neB, eqS, neS, pExtract0, pExtract1, pExtract2, max_int, min_int, sz_nw, sz_wr, sz_drew, mm_nw, fz_nw, mm_drew, fz_drew, fz_wr, sz_mkS, mm_mkS, fz_mkS, Fr.mkS, mm_wr_same, mm_wr_ne, wr_wr, bs_oneT, splice_full, gt_zero, gt_succ, gt_set, gt_bs, byte_eq0, byte_eq1, byte_n0, byte_n1, Fr.refl, Fr.nw, Fr.wr, Fr.drew, hmb, hav, e4, e0, e1, hii, hil]
      refine loopE_of (RInI w b fb kv (crashF kept D.firm 0 (D.pend.take i)) p.1.toNat i (clampN kept i) old p.2) 64 ?_ ?_
      · refine ⟨0, by omega, by omega, hf, ?_, hzf, by simp [put_get, e4, e0, e1]⟩
        have hset0 : (crashF kept D.firm 0 (D.pend.take i)).set p.1.toNat (tear old p.2 0) = crashF kept D.firm 0 (D.pend.take i) := by
          have : tear old p.2 0 = old := by simp [tear]
          rw [this]
          apply List.ext_getElem?
          intro r
          rw [List.getElem?_set]
          by_cases hr : p.1.toNat = r
          · subst hr; rw [if_pos rfl, if_pos (by rw [hGl]; omega), hold]
          · rw [if_neg hr]
        rw [Nat.zero_min, hset0]; exact hmf
      · intro m e w'' hI
        obtain ⟨k, hmk, hk64, hf2, hmf2, hzf2, e5, e4, e0, e1⟩ := id hI
        subst hmk
        by_cases hkl : k < 64
        · exact rin_step hw h1 h7 h8 (m6 b m1) n1 (m6 fb m2) (fun k hk => (n4 k hk).2.1) (fun k hk => (n5 k hk).2.1) hk (fun k hk he => hkF k hk (by rw [he]; exact m2)) hGs hGl hp hold hkl hI
            fun e' w'' hK => ⟨64 - (k + 1), by omega, hK⟩
        · have hk' : k = 64 := by omega
          subst hk'
          unfold F70B1
          try simp (maxDischargeDepth := 8) [↓bindV_some, ↓bindU_some, ↓condE_true, ↓condE_false, ↓pickE_true, ↓pickE_false, ↓pickE_or, ↓pickE_and, ↓grdE_true, ↓grdE_false, ↓grdE_tf, ↓grdE_ft, ↓grdE_undef, ↓nilE_pt, ↓thenK_normal, ↓thenK_exit, ↓thenK_ret, ↓thenK_goto, ↓thenK_panic, ↓blockK_exit, ↓blockK_normal, ↓blockK_ret, ↓blockK_goto, ↓blockK_panic, ↓loopK_normal, ↓loopK_exit, ↓loopK_ret, ↓loopK_goto, ↓loopK_panic, ↓topK_ret, ↓topK_normal, ↓topK_panic, ↓resVs_nil, ↓resVs_tmp, ↓resVs_cell, tup_one, tup_nil, tup_two, put_get, argE_get, ↓takeE_def, ↓heldE_nil, ↓heldE_cons, qNil_pt, qPick_bool, qGrd_bool, qGrd_undef, ↓letK_def, pBox_eq, pBin_add, pBin_sub, pBin_mul, pBin_eql, pBin_neq, pBin_lss, pBin_leq, pBin_gtr, pBin_geq, pUn_not, pUn_neg, eqB, neB, eqS, neS, pExtract0, pExtract1, pExtract2, max_int, min_int, sz_nw, sz_wr, sz_drew, mm_nw, fz_nw, mm_drew, fz_drew, fz_wr, sz_mkS, mm_mkS, fz_mkS, Fr.mkS, mm_wr_same, mm_wr_ne, wr_wr, bs_oneT, splice_full, gt_zero, gt_succ, gt_set, gt_bs, byte_eq0, byte_eq1, byte_n0, byte_n1, Fr.refl, Fr.nw, Fr.wr, Fr.drew, e5, e4, e0, e1, hwi, -Int.natCast_add]
          refine ⟨D.pend.length - (i + 1), by omega, i + 1, rfl, by omega, hf2, ?_, hzf2, by simp [put_get, e4, e0, e1]⟩
          rw [hmf2, hsnoc, Nat.min_eq_right hcl64]
    · have hie : i = D.pend.length := by omega
      subst hie
      rw [List.take_length] at hmf
      try simp (maxDischargeDepth := 8) [↓bindV_some, ↓bindU_some, ↓condE_true, ↓condE_false, ↓pickE_true, ↓pickE_false, ↓pickE_or, ↓pickE_and, ↓grdE_true, ↓grdE_false, ↓grdE_tf, ↓grdE_ft, ↓grdE_undef, ↓nilE_pt, ↓thenK_normal, ↓thenK_exit, ↓thenK_ret, ↓thenK_goto, ↓thenK_panic, ↓blockK_exit, ↓blockK_normal, ↓blockK_ret, ↓blockK_goto, ↓blockK_panic, ↓loopK_normal, ↓loopK_exit, ↓loopK_ret, ↓loopK_goto, ↓loopK_panic, ↓topK_ret, ↓topK_normal, ↓topK_panic, ↓resVs_nil, ↓resVs_tmp, ↓resVs_cell, tup_one, tup_nil, tup_two, put_get, argE_get, ↓takeE_def, ↓heldE_nil, ↓heldE_cons, qNil_pt, qPick_bool, qGrd_bool, qGrd_undef, ↓letK_def, pBox_eq, pBin_add, pBin_sub, pBin_mul, pBin_eql, pBin_neq, pBin_lss, pBin_leq, pBin_gtr, pBin_geq, pUn_not, pUn_neg, eqB, neB, eqS, neS, pExtract0, pExtract1, pExtract2, max_int, min_int, sz_nw, sz_wr, sz_drew, mm_nw, fz_nw, mm_drew, fz_drew, fz_wr, sz_mkS, mm_mkS, fz_mkS, Fr.mkS, mm_wr_same, mm_wr_ne, wr_wr, bs_oneT, splice_full, gt_zero, gt_succ, gt_set, gt_bs, byte_eq0, byte_eq1, byte_n0, byte_n1, Fr.refl, Fr.nw, Fr.wr, Fr.drew, hmb, hav, e4, e0, e1]
      generalize hA : crashF kept D.firm 0 D.pend = A at *
      have hAl : A.length = D.firm.length := by rw [← hA]; exact crashF_length _ _ _ _
      have hAs : ∀ s ∈ A, s.length = 64 := by rw [← hA]; exact crashF_secs kept _ _ _ hw.secs hw.pend
      have hns := nowD_secs hw
      refine loopE_of (RNowI w' b nb A (nowD D)) D.firm.length ?_ ?_
      · exact ⟨0, by rw [nowD_length]; omega, by omega, Fr.refl _ _, by rw [mix_zero]; exact hmn, hzn, by simp [put_get, e0]⟩
      · rintro m e w2 ⟨j, hmj, hj, hf2, hmn2, hzn2, e6, e0⟩
        rw [nowD_length] at hmj hj
        subst hmj
        unfold F70B2
        have hlt : ∀ k ∈ F, k < sz w' := fun k hk => hf.lt (m6 k hk)
        have hb2 : b ∉ [nb] := by simpa using n2
        have hfb2 : fb ∉ [nb] := by simpa using n3
        have hmb2 : mm w2 b = [sl fb 0 D.firm.length D.firm.length, sl nb 0 D.firm.length D.firm.length, av, wv, i64 D.left, .bool D.down, i64 D.writes] := by rw [hf2.mm (hlt b m1) hb2, hmb]
        have hzb2 : fz w2 b = false := by rw [hf2.fz (hlt b m1) hb2, hzb]
        have hmf2 : mm w2 fb = flat bs A := by rw [hf2.mm (hlt fb m2) hfb2, hmf]
        have hzf2 : fz w2 fb = false := by rw [hf2.fz (hlt fb m2) hfb2, hzf]
        have hlen : A.length = (nowD D).length := by rw [hAl, nowD_length]
        by_cases hjl : j < D.firm.length
        · have hji : (j : Int) < D.firm.length := by omega
          have hwj : IntKind.i64.wrap ((j : Int) + 1) = ((j + 1 : Nat) : Int) := wrap64 (by omega) (by omega)
          obtain ⟨s, hs⟩ : ∃ s, A[j]? = some s := ⟨_, List.getElem?_eq_getElem (by omega)⟩
          have hsl := hAs s (List.mem_of_getElem? hs)
          have hcell : List.take 64 (List.drop (j * 64) (flat bs A)) = bs s := flat_take_drop (bs_len hAs) hs
          have hfl := flat_length (bs_len hAs)
          rw [hAl] at hfl
          have hms := mix_secs hAs hns j
          have hflm := flat_length (bs_len hms)
          rw [mix_length hlen, nowD_length] at hflm
          have h64 : j * 64 + 64 ≤ D.firm.length * 64 := by
            have := Nat.mul_le_mul_right 64 (show j + 1 ≤ D.firm.length by omega)
            omega
          have hset : splice (flat bs (mix A (nowD D) j)) (j * 64) (bs s) = flat bs (mix A (nowD D) (j + 1)) := by
            rw [flat_set (n := 64) (y := s) (bs_len hms) (by rw [mix_length hlen, nowD_length]; exact hjl) (by simp [hsl]) rfl, mix_succ hlen hs]
          try simp (maxDischargeDepth := 8) [↓bindV_some, ↓bindU_some, ↓condE_true, ↓condE_false, ↓pickE_true, ↓pickE_false, ↓pickE_or, ↓pickE_and, ↓grdE_true, ↓grdE_false, ↓grdE_tf, ↓grdE_ft, ↓grdE_undef, ↓nilE_pt, ↓thenK_normal, ↓thenK_exit, ↓thenK_ret, ↓thenK_goto, ↓thenK_panic, ↓blockK_exit, ↓blockK_normal, ↓blockK_ret, ↓blockK_goto, ↓blockK_panic, ↓loopK_normal, ↓loopK_exit, ↓loopK_ret, ↓loopK_goto, ↓loopK_panic, ↓topK_ret, ↓topK_normal, ↓topK_panic, ↓resVs_nil, ↓resVs_tmp, ↓resVs_cell, tup_one, tup_nil, tup_two, put_get, argE_get, ↓takeE_def, ↓heldE_nil, ↓heldE_cons, qNil_pt, qPick_bool, qGrd_bool, qGrd_undef, ↓letK_def, pBox_eq, pBin_add, pBin_sub, pBin_mul, pBin_eql, pBin_neq, pBin_lss, pBin_leq, pBin_gtr, pBin_geq, pUn_not, pUn_neg, eqB, neB, eqS, neS, pExtract0, pExtract1, pExtract2, max_int, min_int, sz_nw, sz_wr, sz_drew, mm_nw, fz_nw, mm_drew, fz_drew, fz_wr, sz_mkS, mm_mkS, fz_mkS, Fr.mkS, mm_wr_same, mm_wr_ne, wr_wr, bs_oneT, splice_full, gt_zero, gt_succ, gt_set, gt_bs, byte_eq0, byte_eq1, byte_n0, byte_n1, Fr.refl, Fr.nw, Fr.wr, Fr.drew, hmb2, e6, e0, hji, hjl, hmf2, hcell, hfl, hmn2, hzn2, hflm, h64, hsl, hset, hwj, List.take_of_length_le, -Int.natCast_add]
          refine ⟨D.firm.length - (j + 1), by omega, j + 1, by rw [nowD_length], by rw [nowD_length]; omega, (hf2.drew).wr (.inl (by simp)) _, ?_, ?_, by simp [put_get, e6, e0]⟩
          · simp [sz_nw, sz_wr, sz_drew, mm_nw, fz_nw, mm_drew, fz_drew, fz_wr, sz_mkS, mm_mkS, fz_mkS, Fr.mkS, mm_wr_same, mm_wr_ne, wr_wr, bs_oneT, splice_full, gt_zero, gt_succ, gt_set, gt_bs, byte_eq0, byte_eq1, byte_n0, byte_n1, Fr.refl, Fr.nw, Fr.wr, Fr.drew, hzn2]
          · simp [sz_nw, sz_wr, sz_drew, mm_nw, fz_nw, mm_drew, fz_drew, fz_wr, sz_mkS, mm_mkS, fz_mkS, Fr.mkS, mm_wr_same, mm_wr_ne, wr_wr, bs_oneT, splice_full, gt_zero, gt_succ, gt_set, gt_bs, byte_eq0, byte_eq1, byte_n0, byte_n1, Fr.refl, Fr.nw, Fr.wr, Fr.drew, hzn2]
        · have hje : j = D.firm.length := by omega
          subst hje
          have hmx : mix A (nowD D) D.firm.length = A := by
            have := mix_all hlen
            rwa [hAl] at this
          rw [hmx] at hmn2
          try simp (maxDischargeDepth := 8) [↓bindV_some, ↓bindU_some, ↓condE_true, ↓condE_false, ↓pickE_true, ↓pickE_false, ↓pickE_or, ↓pickE_and, ↓grdE_true, ↓grdE_false, ↓grdE_tf, ↓grdE_ft, ↓grdE_undef, ↓nilE_pt, ↓thenK_normal, ↓thenK_exit, ↓thenK_ret, ↓thenK_goto, ↓thenK_panic, ↓blockK_exit, ↓blockK_normal, ↓blockK_ret, ↓blockK_goto, ↓blockK_panic, ↓loopK_normal, ↓loopK_exit, ↓loopK_ret, ↓loopK_goto, ↓loopK_panic, ↓topK_ret, ↓topK_normal, ↓topK_panic, ↓resVs_nil, ↓resVs_tmp, ↓resVs_cell, tup_one, tup_nil, tup_two, put_get, argE_get, ↓takeE_def, ↓heldE_nil, ↓heldE_cons, qNil_pt, qPick_bool, qGrd_bool, qGrd_undef, ↓letK_def, pBox_eq, pBin_add, pBin_sub, pBin_mul, pBin_eql, pBin_neq, pBin_lss, pBin_leq, pBin_gtr, pBin_geq, pUn_not, pUn_neg, eqB, neB, eqS, neS, pExtract0, pExtract1, pExtract2, max_int, min_int, sz_nw, sz_wr, sz_drew, mm_nw, fz_nw, mm_drew, fz_drew, fz_wr, sz_mkS, mm_mkS, fz_mkS, Fr.mkS, mm_wr_same, mm_wr_ne, wr_wr, bs_oneT, splice_full, gt_zero, gt_succ, gt_set, gt_bs, byte_eq0, byte_eq1, byte_n0, byte_n1, Fr.refl, Fr.nw, Fr.wr, Fr.drew, hmb2, hzb2, e6, e0]
          have hcr : crashD D kept = { D with firm := A, pend := [], left := 0, down := false } := by unfold crashD; rw [hA]
          have hn2' : nowD (crashD D kept) = A := by rw [now_pend_nil (by rw [hcr]), hcr]
          refine ⟨⟨hwf, fb, nb, .slice none 0 0, .slice none 0 0, ?_, by rw [fz_wr]; exact hzb2, ?_, by rw [fz_wr]; exact hzf2, ?_, by rw [fz_wr]; exact hzn2, ?_, ?_, n1, n2, n3, by simp [Value.ownBlock], by simp [Value.ownBlock], m1, m2, m3, by simp [Value.ownBlock], by simp [Value.ownBlock], fun k hk => by rw [sz_wr]; exact hf2.lt (hlt k hk)⟩, ?_⟩
          · rw [mm_wr_same hzb2, hcr]; simp [hAl]
          · rw [mm_wr_ne (fun e => n1 e.symm), hcr]; exact hmf2
          · rw [mm_wr_ne (fun e => n2 e.symm), hn2']; exact hmn2
          · have : atL (crashD D kept) = [] := by unfold atL; rw [hcr]; rfl
            rw [this, hcr]; exact World.ownsRow_nil _ _ _ _
          · have : whL (crashD D kept) = [] := by unfold whL; rw [hcr]; rfl
            rw [this, hcr]; exact World.ownsRow_nil _ _ _ _
          · exact (((hf.mono (T := F) (fun k hk => by simp at hk; subst hk; exact .inl m2)).trans hf2 (fun k hk => by simp at hk; subst hk; exact .inl m3))).wr (.inl m1) _
end Go.Proofs.Yticncfkpfpkfoaa
