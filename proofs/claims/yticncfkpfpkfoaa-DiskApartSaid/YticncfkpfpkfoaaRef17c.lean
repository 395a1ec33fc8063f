/- The document's disk: Write. -/
import Derived.Test.YticncfkpfpkfoaaRef17b
set_option linter.unusedVariables false
set_option linter.unusedSimpArgs false
namespace Go.Proofs.Yticncfkpfpkfoaa
open Go

theorem now_write {D : DD} {n : Nat} {s : List UInt8} (h : okE D n = 0) : nowD (writeD D n s) = (nowD D).set n s := by
  have hl : (writeD D n s).firm = D.firm := by unfold writeD; rw [if_pos h]
  apply List.ext_getElem?
  intro i
  rw [List.getElem?_set]
  by_cases hi : i < D.firm.length
  · rw [nowD_get (by rw [hl]; exact hi), view_write h]
    by_cases hni : n = i
    · subst hni
      rw [if_pos rfl, if_pos rfl, if_pos (by rw [nowD_length]; exact hi)]
    · rw [if_neg (by omega), if_neg hni, nowD_get hi]
  · have h1 : (nowD (writeD D n s))[i]? = none := List.getElem?_eq_none (by rw [nowD_length, hl]; omega)
    have h2 : (nowD D)[i]? = none := List.getElem?_eq_none (by rw [nowD_length]; omega)
    rw [h1, h2]
    split
    · rename_i hni
      rw [if_neg (by rw [nowD_length]; omega)]
    · rfl

theorem rwrite_spec {w : World} {b : Nat} {D : DD} {F : List Nat} {x : Int} {s : List UInt8} (h : IsR w b D F) (hs : s.length = 64) (hx0 : -9223372036854775808 ≤ x) (hx1 : x < 9223372036854775808)
    (hm : D.pend.length < 1000000) (hwr : D.writes < 4611686018427387904) :
    Ret P 67 #[pt b 0, i64 x, sec s] w fun v w' => v = i64 (writeE D x) ∧ ∃ F', IsR w' b (writeD D x s) F' ∧ Fr F w w' ∧ ∀ k ∈ F', k ∈ F ∨ sz w ≤ k := by
  refine F67ok ?_
  unfold F67
  have hr0 := h.fr0 ((Fr.refl [] w).nw (bs s) 25)
  try simp (maxDischargeDepth := 8) [↓bindV_some, ↓bindU_some, ↓condE_true, ↓condE_false, ↓pickE_true, ↓pickE_false, ↓pickE_or, ↓pickE_and, ↓grdE_true, ↓grdE_false, ↓grdE_tf, ↓grdE_ft, ↓grdE_undef, ↓nilE_pt, ↓thenK_normal, ↓thenK_exit, ↓thenK_ret, ↓thenK_goto, ↓thenK_panic, ↓blockK_exit, ↓blockK_normal, ↓blockK_ret, ↓blockK_goto, ↓blockK_panic, ↓loopK_normal, ↓loopK_exit, ↓loopK_ret, ↓loopK_goto, ↓loopK_panic, ↓topK_ret, ↓topK_normal, ↓topK_panic, ↓resVs_nil, ↓resVs_tmp, ↓resVs_cell, tup_one, tup_nil, tup_two, put_get, argE_get, ↓takeE_def, ↓heldE_nil, ↓heldE_cons, qNil_pt, qPick_bool, qGrd_bool, qGrd_undef, ↓letK_def, pBox_eq, pBin_add, pBin_sub, pBin_mul, pBin_eql, pBin_neq, pBin_lss, pBin_leq, pBin_gtr, pBin_geq, pUn_not, pUn_neg, eqB, neB, eqS, neS, pExtract0, pExtract1, pExtract2, max_int, min_int, sz_nw, sz_wr, sz_drew, mm_nw, fz_nw, mm_drew, fz_drew, fz_wr, sz_mkS, mm_mkS, fz_mkS, Fr.mkS, mm_wr_same, mm_wr_ne, wr_wr, bs_oneT, splice_full, gt_zero, gt_succ, gt_set, gt_bs, byte_eq0, byte_eq1, byte_n0, byte_n1, Fr.refl, Fr.nw, Fr.wr, Fr.drew]
  refine (rread_spec (x := x) hr0 hx0 hx1).call ?_
  rintro _ w1 ⟨rfl, hf1⟩
  have hr1 := hr0.fr0 hf1
  have hf : Fr [] w w1 := ((Fr.refl [] w).nw _ _).trans0 hf1
  have hlt : sz w < sz (nw w (bs s) 25) := by rw [sz_nw]; omega
  have hz01 : sz w < sz w1 := Nat.lt_of_lt_of_le hlt hf1.size
  have hm1 : mm w1 (sz w) = bs s := by rw [hf1.mm hlt (by simp)]; simp [sz_nw, sz_wr, sz_drew, mm_nw, fz_nw, mm_drew, fz_drew, fz_wr, sz_mkS, mm_mkS, fz_mkS, Fr.mkS, mm_wr_same, mm_wr_ne, wr_wr, bs_oneT, splice_full, gt_zero, gt_succ, gt_set, gt_bs, byte_eq0, byte_eq1, byte_n0, byte_n1, Fr.refl, Fr.nw, Fr.wr, Fr.drew]
  have hfw : ∀ t t', Fr [] w1 (wr (nw w1 t 25) (sz w1) t') := fun t t' => ((Fr.refl [] w1).nw _ _).wr (.inr (Nat.le_refl _)) _
  have htz : List.take 64 (bs (zb 64)) = bs (zb 64) := List.take_of_length_le (by simp)
  by_cases hok : okE D x = 0
  · obtain ⟨hdn, hp0, hp1⟩ := okE_zero hok
    obtain ⟨n, rfl⟩ : ∃ n : Nat, x = n := ⟨x.toNat, by omega⟩
    have hn : n < D.firm.length := by omega
    have hwf' := wf_write (x := n) (s := s) h.1 hs hm hwr
    have hS : (readD D n).length = 64 := readD_len h.1 hp0 hp1
    generalize hW2 : wr (nw w1 (bs (zb 64)) 25) (sz w1) (bs (readD D n)) = W2
    have hf2 : Fr [] w1 W2 := by rw [← hW2]; exact hfw _ _
    have hFw : ∀ k ∈ F, k < sz w := by obtain ⟨_, _, _, _, _, _, _, _, _, _, _, _, _, _, _, _, _, _, _, _, _, _, _, h⟩ := h; exact h
    obtain ⟨hw, fb, nb, av, wv, h1, h2, h3, h4, h5, h6, h7, h8, n1, n2, n3, n4, n5, m1, m2, m3, m4, m5, m6⟩ := hr1.fr0 hf2
    have hm2 : mm W2 (sz w) = bs s := by rw [hf2.mm (by have := hf1.size; omega) (by simp), hm1]
    have hz12 := hf.size
    have hz2 := hf2.size
    have hns := nowD_secs hw
    have hfl := flat_length (bs_len hns)
    rw [nowD_length] at hfl
    have h64 : n * 64 + 64 ≤ D.firm.length * 64 := by
      have := Nat.mul_le_mul_right 64 (show n + 1 ≤ D.firm.length by omega)
      omega
    have hset : splice (flat bs (nowD D)) (n * 64) (bs s) = flat bs ((nowD D).set n s) := flat_set (n := 64) (y := s) (bs_len hns) (by rw [nowD_length]; exact hn) (by simp [hs]) rfl
    have hts : List.take 64 (bs s) = bs s := List.take_of_length_le (by simp [hs])
    have hni : (n : Int) < D.firm.length := by omega
    -- now
    generalize hW3 : wr (drew W2) nb (flat bs ((nowD D).set n s)) = W3
    have hf3 : Fr [nb] W2 W3 := by rw [← hW3]; exact ((Fr.refl [nb] W2).drew).wr (.inl (by simp)) _
    have hb3 : mm W3 b = [sl fb 0 D.firm.length D.firm.length, sl nb 0 D.firm.length D.firm.length, av, wv, i64 D.left, .bool D.down, i64 D.writes] := by rw [hf3.mm (m6 b m1) (by simpa using n2), h1]
    have zb3 : fz W3 b = false := by rw [hf3.fz (m6 b m1) (by simpa using n2), h2]
    have hfb3 : mm W3 fb = flat bs D.firm := by rw [hf3.mm (m6 fb m2) (by simpa using n3), h3]
    have zfb3 : fz W3 fb = false := by rw [hf3.fz (m6 fb m2) (by simpa using n3), h4]
    have hnb3 : mm W3 nb = flat bs ((nowD D).set n s) := by rw [← hW3]; simp [sz_nw, sz_wr, sz_drew, mm_nw, fz_nw, mm_drew, fz_drew, fz_wr, sz_mkS, mm_mkS, fz_mkS, Fr.mkS, mm_wr_same, mm_wr_ne, wr_wr, bs_oneT, splice_full, gt_zero, gt_succ, gt_set, gt_bs, byte_eq0, byte_eq1, byte_n0, byte_n1, Fr.refl, Fr.nw, Fr.wr, Fr.drew, h6]
    have znb3 : fz W3 nb = false := by rw [← hW3]; simp [sz_nw, sz_wr, sz_drew, mm_nw, fz_nw, mm_drew, fz_drew, fz_wr, sz_mkS, mm_mkS, fz_mkS, Fr.mkS, mm_wr_same, mm_wr_ne, wr_wr, bs_oneT, splice_full, gt_zero, gt_succ, gt_set, gt_bs, byte_eq0, byte_eq1, byte_n0, byte_n1, Fr.refl, Fr.nw, Fr.wr, Fr.drew, h6]
    have hms3 : mm W3 (sz w) = bs s := by rw [hf3.mm (by omega) (by simp; intro e; have := hFw nb m3; omega), hm2]
    have sz3 : sz W3 = sz W2 := by rw [← hW3]; simp [sz_nw, sz_wr, sz_drew, mm_nw, fz_nw, mm_drew, fz_drew, fz_wr, sz_mkS, mm_mkS, fz_mkS, Fr.mkS, mm_wr_same, mm_wr_ne, wr_wr, bs_oneT, splice_full, gt_zero, gt_succ, gt_set, gt_bs, byte_eq0, byte_eq1, byte_n0, byte_n1, Fr.refl, Fr.nw, Fr.wr, Fr.drew]
    have r7 := own_fr h7 (hf3.nw [i64 n] 3) (fun k hk => by simp; exact (n4 k hk).2.2.1)
    have r8 := own_fr h8 hf3 (fun k hk => by simp; exact (n5 k hk).2.2)
    have hbsl : pBuildSlice P 43 1 [(0, i64 n)] W3 = some (sl (sz W3) 0 1 1, nw W3 [i64 n] 3) := by
      rw [bsl43 (by omega) (by simp)]
      simp [splice]
    obtain ⟨av', w5, hap, hown, hgr, hblk⟩ := append_own2 (P := P) (w := nw W3 [i64 n] 3) (ty := 43) 0 sliceE43 hasZero3 cellsOf3 (by rw [zeroL3]; simp) (by omega)
      r7 (Nat.zero_le _) (rd_new W3 [i64 n] 3 (n := 1) (by simp [maxLen])) (by simp) (by simp [Value.oneCell']) (by simp [maxLen]; omega) (by simp; omega)
    have hg := Fr.of_grown hgr
    have nin : ∀ k, k < sz W3 → av.ownBlock ≠ some k → k < sz (nw W3 [i64 n] 3) ∧ k ∉ av.ownBlock.toList := fun k hk hne => ⟨by rw [sz_nw]; omega, by cases hpb : av.ownBlock with
      | none => simp
      | some k' => simp; rintro rfl; exact hne hpb⟩
    have hsn : sz (nw W3 [i64 n] 3) = sz W3 + 1 := sz_nw ..
    have hFsz : ∀ k ∈ F, k < sz W3 := fun k hk => by have := hFw k hk; omega
    have nb' := nin b (hFsz b m1) (fun e => (n4 b e).1 rfl)
    have nfb' := nin fb (hFsz fb m2) (fun e => (n4 fb e).2.1 rfl)
    have nnb' := nin nb (hFsz nb m3) (fun e => (n4 nb e).2.2.1 rfl)
    have nsw' := nin (sz w) (by omega) (fun e => by have := hFw _ (m4 _ e); omega)
    have mb5 : mm w5 b = [sl fb 0 D.firm.length D.firm.length, sl nb 0 D.firm.length D.firm.length, av, wv, i64 D.left, .bool D.down, i64 D.writes] := by
      rw [hg.mm nb'.1 nb'.2, mm_nw, if_neg (by have := hFsz b m1; omega), hb3]
    have zb5 : fz w5 b = false := by rw [hg.fz nb'.1 nb'.2, fz_nw, if_neg (by have := hFsz b m1; omega), zb3]
    have mfb5 : mm w5 fb = flat bs D.firm := by rw [hg.mm nfb'.1 nfb'.2, mm_nw, if_neg (by have := hFsz fb m2; omega), hfb3]
    have zfb5 : fz w5 fb = false := by rw [hg.fz nfb'.1 nfb'.2, fz_nw, if_neg (by have := hFsz fb m2; omega), zfb3]
    have mnb5 : mm w5 nb = flat bs ((nowD D).set n s) := by rw [hg.mm nnb'.1 nnb'.2, mm_nw, if_neg (by have := hFsz nb m3; omega), hnb3]
    have znb5 : fz w5 nb = false := by rw [hg.fz nnb'.1 nnb'.2, fz_nw, if_neg (by have := hFsz nb m3; omega), znb3]
    have ms5 : mm w5 (sz w) = bs s := by rw [hg.mm nsw'.1 nsw'.2, mm_nw, if_neg (by omega), hms3]
    have hz5 := hg.size
    have hav1 : av'.oneCell' = true := by obtain ⟨a, c, rfl⟩ := own_sl hown; rfl
    have hav : ∀ k, av'.ownBlock = some k → (k ∈ F ∧ av.ownBlock = some k) ∨ k = sz W3 + 1 := fun k hk => by
      rcases hblk with e | e
      · rw [e] at hk; exact .inl ⟨m4 k hk, hk⟩
      · rw [e] at hk; simp at hk; right; omega
    have havlt := fun k hk => own_lt hown k hk
    have r8b : w5.ownsRow 0 25 64 wv D.pend.length (flat bs (whL D)) := own_fr (own_fr r8 ((Fr.refl [] W3).nw [i64 n] 3) (by simp)) hg (fun k hk => by
      cases hpb : av.ownBlock with
      | none => simp
      | some k' => simp; rintro rfl; exact (n4 k hpb).2.2.2 hk)
    generalize hW6 : wr w5 b [sl fb 0 D.firm.length D.firm.length, sl nb 0 D.firm.length D.firm.length, av', wv, i64 D.left, .bool D.down, i64 D.writes] = W6
    have hf6 : Fr [b] w5 W6 := by rw [← hW6]; exact (Fr.refl [b] w5).wr (.inl (by simp)) _
    have sz6 : sz W6 = sz w5 := by rw [← hW6, sz_wr]
    have mb6 : mm W6 b = [sl fb 0 D.firm.length D.firm.length, sl nb 0 D.firm.length D.firm.length, av', wv, i64 D.left, .bool D.down, i64 D.writes] := by rw [← hW6, mm_wr_same zb5]
    have zb6 : fz W6 b = false := by rw [← hW6, fz_wr]; exact zb5
    have lt5 : ∀ k ∈ F, k < sz w5 := fun k hk => by have := hFsz k hk; omega
    have mfb6 : mm W6 fb = flat bs D.firm := by rw [hf6.mm (lt5 fb m2) (by simp; exact fun e => n1 e.symm), mfb5]
    have zfb6 : fz W6 fb = false := by rw [hf6.fz (lt5 fb m2) (by simp; exact fun e => n1 e.symm), zfb5]
    have mnb6 : mm W6 nb = flat bs ((nowD D).set n s) := by rw [hf6.mm (lt5 nb m3) (by simp; exact fun e => n2 e.symm), mnb5]
    have znb6 : fz W6 nb = false := by rw [hf6.fz (lt5 nb m3) (by simp; exact fun e => n2 e.symm), znb5]
    have ms6 : mm W6 (sz w) = bs s := by rw [hf6.mm (by omega) (by simp; intro e; have := hFw b m1; omega), ms5]
    have hbs76 : pBuildSlice P 76 1 [(0, sec s)] (drew W6) = some (sl (sz W6) 0 1 1, nw (drew W6) (bs s) 25) := by
      rw [bsl76 (by omega) (by intro p hp; simp only [List.mem_cons, List.not_mem_nil, or_false] at hp; subst hp; exact ⟨by simp [hs], by omega⟩)]
      have hdz : (bs (zb 64)).drop 64 = [] := List.drop_eq_nil_of_le (by simp)
      simp [splice, hs, hdz, sz_drew]
    have hf7 : Fr [b] w5 (nw (drew W6) (bs s) 25) := (hf6.drew).nw _ _
    have r8c := own_fr r8b hf7 (fun k hk => by simp; exact (n5 k hk).1)
    have r7c := own_fr hown hf7 (fun k hk => by
      simp; rintro rfl
      rcases hav _ hk with h | h
      · exact (n4 _ h.2).1 rfl
      · have := hFsz _ m1; omega)
    obtain ⟨wv', w8, hap2, hown2, hgr2, hblk2⟩ := append_own2 (P := P) (w := nw (drew W6) (bs s) 25) (ty := 76) 0 sliceE76 hasZero25 cellsOf25 (by rw [zeroL25]; simp) (by omega)
      r8c (Nat.zero_le _) (rd_new (drew W6) (bs s) 25 (n := 1) (by simp [maxLen])) (by simp [hs]) (fun u hu => bs_one u hu) (by simp [maxLen]; omega) (by simp; omega)
    simp only [sz_drew] at hap2
    have hg2 := Fr.of_grown hgr2
    have hsn2 : sz (nw (drew W6) (bs s) 25) = sz W6 + 1 := by rw [sz_nw, sz_drew]
    have nin2 : ∀ k, k < sz W6 → wv.ownBlock ≠ some k → k < sz (nw (drew W6) (bs s) 25) ∧ k ∉ wv.ownBlock.toList := fun k hk hne => ⟨by rw [hsn2]; omega, by cases hpb : wv.ownBlock with
      | none => simp
      | some k' => simp; rintro rfl; exact hne hpb⟩
    have lt6 : ∀ k ∈ F, k < sz W6 := fun k hk => by have := lt5 k hk; omega
    have ob := nin2 b (lt6 b m1) (fun e => (n5 b e).1 rfl)
    have ofb := nin2 fb (lt6 fb m2) (fun e => (n5 fb e).2.1 rfl)
    have onb := nin2 nb (lt6 nb m3) (fun e => (n5 nb e).2.2 rfl)
    have mb7 : mm (nw (drew W6) (bs s) 25) b = [sl fb 0 D.firm.length D.firm.length, sl nb 0 D.firm.length D.firm.length, av', wv, i64 D.left, .bool D.down, i64 D.writes] := by
      rw [mm_nw, if_neg (by rw [sz_drew]; have := lt6 b m1; omega), mm_drew, mb6]
    have mb8 : mm w8 b = [sl fb 0 D.firm.length D.firm.length, sl nb 0 D.firm.length D.firm.length, av', wv, i64 D.left, .bool D.down, i64 D.writes] := by rw [hg2.mm ob.1 ob.2, mb7]
    have zb8 : fz w8 b = false := by rw [hg2.fz ob.1 ob.2, fz_nw, if_neg (by rw [sz_drew]; have := lt6 b m1; omega), fz_drew, zb6]
    have mfb8 : mm w8 fb = flat bs D.firm := by rw [hg2.mm ofb.1 ofb.2, mm_nw, if_neg (by rw [sz_drew]; have := lt6 fb m2; omega), mm_drew, mfb6]
    have zfb8 : fz w8 fb = false := by rw [hg2.fz ofb.1 ofb.2, fz_nw, if_neg (by rw [sz_drew]; have := lt6 fb m2; omega), fz_drew, zfb6]
    have mnb8 : mm w8 nb = flat bs ((nowD D).set n s) := by rw [hg2.mm onb.1 onb.2, mm_nw, if_neg (by rw [sz_drew]; have := lt6 nb m3; omega), mm_drew, mnb6]
    have znb8 : fz w8 nb = false := by rw [hg2.fz onb.1 onb.2, fz_nw, if_neg (by rw [sz_drew]; have := lt6 nb m3; omega), fz_drew, znb6]
    have hz8 := hg2.size
    have hwv1 : wv'.oneCell' = true := by obtain ⟨a, c, rfl⟩ := own_sl hown2; rfl
    have hwv : ∀ k, wv'.ownBlock = some k → (k ∈ F ∧ wv.ownBlock = some k) ∨ k = sz W6 + 1 := fun k hk => by
      rcases hblk2 with e | e
      · rw [e] at hk; exact .inl ⟨m5 k hk, hk⟩
      · rw [e] at hk; simp at hk; right; omega
    have havk : ∀ k, av'.ownBlock = some k → wv.ownBlock ≠ some k := fun k hk e => by
      rcases hav k hk with h | h
      · exact (n4 k h.2).2.2.2 e
      · have := hFsz k (m5 k e); omega
    have r7d := own_fr r7c hg2 (fun k hk => by
      cases hpb : wv.ownBlock with
      | none => simp
      | some k' => simp; rintro rfl; exact havk k hk hpb)
    have hfrF : Fr F w w8 := by
      have a1 : Fr F w W3 := ((hf.trans0 hf2).mono (T := F) (by simp)).trans hf3 (fun k hk => by simp at hk; subst hk; exact .inl m3)
      have a2 : Fr F w w5 := (a1.nw [i64 n] 3).trans hg (fun k hk => by
        cases hpb : av.ownBlock with
        | none => simp [hpb] at hk
        | some k' => simp [hpb] at hk; subst hk; exact .inl (m4 _ hpb))
      have a3 : Fr F w (nw (drew W6) (bs s) 25) := a2.trans hf7 (fun k hk => by simp at hk; subst hk; exact .inl m1)
      exact a3.trans hg2 (fun k hk => by
        cases hpb : wv.ownBlock with
        | none => simp [hpb] at hk
        | some k' => simp [hpb] at hk; subst hk; exact .inl (m5 _ hpb))
    have fin : ∀ (lf : Int) (dn : Bool), writeD D n s = { D with pend := D.pend ++ [((n : Int), s)], writes := D.writes + 1, left := lf, down := dn } →
        ∃ F', IsR (wr w8 b [sl fb 0 D.firm.length D.firm.length, sl nb 0 D.firm.length D.firm.length, av', wv', i64 lf, .bool dn, i64 (D.writes + 1)]) b (writeD D n s) F' ∧
          Fr F w (wr w8 b [sl fb 0 D.firm.length D.firm.length, sl nb 0 D.firm.length D.firm.length, av', wv', i64 lf, .bool dn, i64 (D.writes + 1)]) ∧ ∀ k ∈ F', k ∈ F ∨ sz w ≤ k := by
      intro lf dn hD
      have hfb' : ∀ t, Fr [b] w8 (wr w8 b t) := fun t => (Fr.refl [b] w8).wr (.inl (by simp)) _
      have hnow := now_write (s := s) hok
      have e1 : atL (writeD D n s) = atL D ++ [i64 n] := by rw [hD]; simp [atL]
      have e2 : flat bs (whL (writeD D n s)) = flat bs (whL D) ++ bs s := by rw [hD]; simp [whL, flat_append, flat_one]
      have e3 : (writeD D n s).pend.length = D.pend.length + 1 := by rw [hD]; simp
      have e4 : (writeD D n s).firm = D.firm := by rw [hD]
      refine ⟨F ++ av'.ownBlock.toList ++ wv'.ownBlock.toList, ⟨hwf', fb, nb, av', wv', ?_, by rw [fz_wr]; exact zb8, ?_, by rw [fz_wr]; exact zfb8, ?_, by rw [fz_wr]; exact znb8, ?_, ?_, n1, n2, n3, fun k hk => ?_, fun k hk => ?_, by simp [m1], by simp [m2], by simp [m3], fun k hk => by simp [hk], fun k hk => by simp [hk], fun k hk => ?_⟩, hfrF.wr (.inl m1) _, fun k hk => ?_⟩
      · rw [mm_wr_same zb8, hD]
      · rw [mm_wr_ne (fun e => n1 e.symm), e4]; exact mfb8
      · rw [mm_wr_ne (fun e => n2 e.symm), hnow]; exact mnb8
      · rw [e1, e3]
        refine own_fr r7d (hfb' _) (fun k hk => ?_)
        simp; rintro rfl
        rcases hav _ hk with h | h
        · exact (n4 _ h.2).1 rfl
        · have := hFsz _ m1; omega
      · rw [e2, e3]
        refine own_fr hown2 (hfb' _) (fun k hk => ?_)
        simp; rintro rfl
        rcases hwv _ hk with h | h
        · exact (n5 _ h.2).1 rfl
        · have := lt6 _ m1; omega
      · have q1 := hFsz b m1; have q2 := hFsz fb m2; have q3 := hFsz nb m3
        rcases hav k hk with h | h
        · obtain ⟨p1, p2, p3, p4⟩ := n4 k h.2
          refine ⟨p1, p2, p3, fun e => ?_⟩
          rcases hwv k e with h' | h'
          · exact p4 h'.2
          · have := lt6 k h.1; omega
        · refine ⟨by omega, by omega, by omega, fun e => ?_⟩
          rcases hwv k e with h' | h'
          · have := hFsz k h'.1; omega
          · have := (havlt k hk).2; omega
      · have q1 := lt6 b m1; have q2 := lt6 fb m2; have q3 := lt6 nb m3
        rcases hwv k hk with h | h
        · exact n5 k h.2
        · exact ⟨by omega, by omega, by omega⟩
      · rw [sz_wr]
        simp only [List.mem_append, Option.mem_toList, Option.mem_def] at hk
        rcases hk with (hk | hk) | hk
        · exact hfrF.lt (hFw k hk)
        · exact (own_lt r7d k hk).2
        · exact (own_lt hown2 k hk).2
      · simp only [List.mem_append, Option.mem_toList, Option.mem_def] at hk
        rcases hk with (hk | hk) | hk
        · exact .inl hk
        · rcases hav k hk with h | h
          · exact .inl h.1
          · right; omega
        · rcases hwv k hk with h | h
          · exact .inl h.1
          · right; omega
    have hw1 : IntKind.i64.wrap (D.writes + 1) = D.writes + 1 := by have := hw.wr0; exact wrap64 (by omega) (by omega)
    have hl0 := hw.left0
    have hl1 := hw.left1
    have hspl : splice (bs (zb 64)) 0 (bs (readD D n)) = bs (readD D n) := splice_full (by simp [hS])
    have hlp1 : (D.left = 1) = True → (0 < D.left) = True := fun h => by
      have := of_eq_true h
      exact eq_true (by omega)
    by_cases hlp : 0 < D.left
    · have hw2 : IntKind.i64.wrap (D.left - 1) = D.left - 1 := wrap64 (by omega) (by omega)
      by_cases hl1' : D.left = 1
      · have hE : writeE D n = 14 := by unfold writeE; rw [if_pos hok, if_pos hl1']
        have hD := fin (D.left - 1) true (by unfold writeD; rw [if_pos hok]; simp [hl1'])
        have hle := eq_true hl1'
        rw [if_pos hok]
        simp (maxDischargeDepth := 8) [↓bindV_some, ↓bindU_some, ↓condE_true, ↓condE_false, ↓pickE_true, ↓pickE_false, ↓pickE_or, ↓pickE_and, ↓grdE_true, ↓grdE_false, ↓grdE_tf, ↓grdE_ft, ↓grdE_undef, ↓nilE_pt, ↓thenK_normal, ↓thenK_exit, ↓thenK_ret, ↓thenK_goto, ↓thenK_panic, ↓blockK_exit, ↓blockK_normal, ↓blockK_ret, ↓blockK_goto, ↓blockK_panic, ↓loopK_normal, ↓loopK_exit, ↓loopK_ret, ↓loopK_goto, ↓loopK_panic, ↓topK_ret, ↓topK_normal, ↓topK_panic, ↓resVs_nil, ↓resVs_tmp, ↓resVs_cell, tup_one, tup_nil, tup_two, put_get, argE_get, ↓takeE_def, ↓heldE_nil, ↓heldE_cons, qNil_pt, qPick_bool, qGrd_bool, qGrd_undef, ↓letK_def, pBox_eq, pBin_add, pBin_sub, pBin_mul, pBin_eql, pBin_neq, pBin_lss, pBin_leq, pBin_gtr, pBin_geq, pUn_not, pUn_neg, eqB, neB, eqS, neS, pExtract0, pExtract1, pExtract2, max_int, min_int, sz_nw, sz_wr, sz_drew, mm_nw, fz_nw, mm_drew, fz_drew, fz_wr, sz_mkS, mm_mkS, fz_mkS, Fr.mkS, mm_wr_same, mm_wr_ne, wr_wr, bs_oneT, splice_full, gt_zero, gt_succ, gt_set, gt_bs, byte_eq0, byte_eq1, byte_n0, byte_n1, Fr.refl, Fr.nw, Fr.wr, Fr.drew, hok, hS, hspl, hW2, h1, h5, h6, hfl, h64, hn, hni, hset, hm2, hs, hts, hW3, hb3, hbsl, hap, hav1, mb5, zb5, hW6, mb6, ms6, hbs76, hap2, mb7, mb8, zb8, hwv1, hw1, hle, hlp, hw2, hE]
        exact hD
      · have hE : writeE D n = 0 := by unfold writeE; rw [if_pos hok, if_neg hl1']
        have hD := fin (D.left - 1) D.down (by unfold writeD; rw [if_pos hok]; simp [hl1', hlp, hdn])
        rw [if_pos hok]
        simp (maxDischargeDepth := 8) [↓bindV_some, ↓bindU_some, ↓condE_true, ↓condE_false, ↓pickE_true, ↓pickE_false, ↓pickE_or, ↓pickE_and, ↓grdE_true, ↓grdE_false, ↓grdE_tf, ↓grdE_ft, ↓grdE_undef, ↓nilE_pt, ↓thenK_normal, ↓thenK_exit, ↓thenK_ret, ↓thenK_goto, ↓thenK_panic, ↓blockK_exit, ↓blockK_normal, ↓blockK_ret, ↓blockK_goto, ↓blockK_panic, ↓loopK_normal, ↓loopK_exit, ↓loopK_ret, ↓loopK_goto, ↓loopK_panic, ↓topK_ret, ↓topK_normal, ↓topK_panic, ↓resVs_nil, ↓resVs_tmp, ↓resVs_cell, tup_one, tup_nil, tup_two, put_get, argE_get, ↓takeE_def, ↓heldE_nil, ↓heldE_cons, qNil_pt, qPick_bool, qGrd_bool, qGrd_undef, ↓letK_def, pBox_eq, pBin_add, pBin_sub, pBin_mul, pBin_eql, pBin_neq, pBin_lss, pBin_leq, pBin_gtr, pBin_geq, pUn_not, pUn_neg, eqB, neB, eqS, neS, pExtract0, pExtract1, pExtract2, max_int, min_int, sz_nw, sz_wr, sz_drew, mm_nw, fz_nw, mm_drew, fz_drew, fz_wr, sz_mkS, mm_mkS, fz_mkS, Fr.mkS, mm_wr_same, mm_wr_ne, wr_wr, bs_oneT, splice_full, gt_zero, gt_succ, gt_set, gt_bs, byte_eq0, byte_eq1, byte_n0, byte_n1, Fr.refl, Fr.nw, Fr.wr, Fr.drew, hok, hS, hspl, hW2, h1, h5, h6, hfl, h64, hn, hni, hset, hm2, hs, hts, hW3, hb3, hbsl, hap, hav1, mb5, zb5, hW6, mb6, ms6, hbs76, hap2, mb7, mb8, zb8, hwv1, hw1, hl1', hlp, hw2]
        rw [hdn] at hD ⊢
        simp (maxDischargeDepth := 8) [↓bindV_some, ↓bindU_some, ↓condE_true, ↓condE_false, ↓pickE_true, ↓pickE_false, ↓pickE_or, ↓pickE_and, ↓grdE_true, ↓grdE_false, ↓grdE_tf, ↓grdE_ft, ↓grdE_undef, ↓nilE_pt, ↓thenK_normal, ↓thenK_exit, ↓thenK_ret, ↓thenK_goto, ↓thenK_panic, ↓blockK_exit, ↓blockK_normal, ↓blockK_ret, ↓blockK_goto, ↓blockK_panic, ↓loopK_normal, ↓loopK_exit, ↓loopK_ret, ↓loopK_goto, ↓loopK_panic, ↓topK_ret, ↓topK_normal, ↓topK_panic, ↓resVs_nil, ↓resVs_tmp, ↓resVs_cell, tup_one, tup_nil, tup_two, put_get, argE_get, ↓takeE_def, ↓heldE_nil, ↓heldE_cons, qNil_pt, qPick_bool, qGrd_bool, qGrd_undef, ↓letK_def, pBox_eq, pBin_add, pBin_sub, pBin_mul, pBin_eql, pBin_neq, pBin_lss, pBin_leq, pBin_gtr, pBin_geq, pUn_not, pUn_neg, eqB, neB, eqS, neS, pExtract0, pExtract1, pExtract2, max_int, min_int, sz_nw, sz_wr, sz_drew, mm_nw, fz_nw, mm_drew, fz_drew, fz_wr, sz_mkS, mm_mkS, fz_mkS, Fr.mkS, mm_wr_same, mm_wr_ne, wr_wr, bs_oneT, splice_full, gt_zero, gt_succ, gt_set, gt_bs, byte_eq0, byte_eq1, byte_n0, byte_n1, Fr.refl, Fr.nw, Fr.wr, Fr.drew, hE]
        exact hD
    · have hl1' : ¬ D.left = 1 := by omega
      have hE : writeE D n = 0 := by unfold writeE; rw [if_pos hok, if_neg hl1']
      have hD := fin D.left D.down (by unfold writeD; rw [if_pos hok]; simp [hl1', hlp, hdn])
      rw [if_pos hok]
      simp (maxDischargeDepth := 8) [↓bindV_some, ↓bindU_some, ↓condE_true, ↓condE_false, ↓pickE_true, ↓pickE_false, ↓pickE_or, ↓pickE_and, ↓grdE_true, ↓grdE_false, ↓grdE_tf, ↓grdE_ft, ↓grdE_undef, ↓nilE_pt, ↓thenK_normal, ↓thenK_exit, ↓thenK_ret, ↓thenK_goto, ↓thenK_panic, ↓blockK_exit, ↓blockK_normal, ↓blockK_ret, ↓blockK_goto, ↓blockK_panic, ↓loopK_normal, ↓loopK_exit, ↓loopK_ret, ↓loopK_goto, ↓loopK_panic, ↓topK_ret, ↓topK_normal, ↓topK_panic, ↓resVs_nil, ↓resVs_tmp, ↓resVs_cell, tup_one, tup_nil, tup_two, put_get, argE_get, ↓takeE_def, ↓heldE_nil, ↓heldE_cons, qNil_pt, qPick_bool, qGrd_bool, qGrd_undef, ↓letK_def, pBox_eq, pBin_add, pBin_sub, pBin_mul, pBin_eql, pBin_neq, pBin_lss, pBin_leq, pBin_gtr, pBin_geq, pUn_not, pUn_neg, eqB, neB, eqS, neS, pExtract0, pExtract1, pExtract2, max_int, min_int, sz_nw, sz_wr, sz_drew, mm_nw, fz_nw, mm_drew, fz_drew, fz_wr, sz_mkS, mm_mkS, fz_mkS, Fr.mkS, mm_wr_same, mm_wr_ne, wr_wr, bs_oneT, splice_full, gt_zero, gt_succ, gt_set, gt_bs, byte_eq0, byte_eq1, byte_n0, byte_n1, Fr.refl, Fr.nw, Fr.wr, Fr.drew, hok, hS, hspl, hW2, h1, h5, h6, hfl, h64, hn, hni, hset, hm2, hs, hts, hW3, hb3, hbsl, hap, hav1, mb5, zb5, hW6, mb6, ms6, hbs76, hap2, mb7, mb8, zb8, hwv1, hw1, hl1', hlp]
      rw [hdn] at hD ⊢
      simp (maxDischargeDepth := 8) [↓bindV_some, ↓bindU_some, ↓condE_true, ↓condE_false, ↓pickE_true, ↓pickE_false, ↓pickE_or, ↓pickE_and, ↓grdE_true, ↓grdE_false, ↓grdE_tf, ↓grdE_ft, ↓grdE_undef, ↓nilE_pt, ↓thenK_normal, ↓thenK_exit, ↓thenK_ret, ↓thenK_goto, ↓thenK_panic, ↓blockK_exit, ↓blockK_normal, ↓blockK_ret, ↓blockK_goto, ↓blockK_panic, ↓loopK_normal, ↓loopK_exit, ↓loopK_ret, ↓loopK_goto, ↓loopK_panic, ↓topK_ret, ↓topK_normal, ↓topK_panic, ↓resVs_nil, ↓resVs_tmp, ↓resVs_cell, tup_one, tup_nil, tup_two, put_get, argE_get, ↓takeE_def, ↓heldE_nil, ↓heldE_cons, qNil_pt, qPick_bool, qGrd_bool, qGrd_undef, ↓letK_def, pBox_eq, pBin_add, pBin_sub, pBin_mul, pBin_eql, pBin_neq, pBin_lss, pBin_leq, pBin_gtr, pBin_geq, pUn_not, pUn_neg, eqB, neB, eqS, neS, pExtract0, pExtract1, pExtract2, max_int, min_int, sz_nw, sz_wr, sz_drew, mm_nw, fz_nw, mm_drew, fz_drew, fz_wr, sz_mkS, mm_mkS, fz_mkS, Fr.mkS, mm_wr_same, mm_wr_ne, wr_wr, bs_oneT, splice_full, gt_zero, gt_succ, gt_set, gt_bs, byte_eq0, byte_eq1, byte_n0, byte_n1, Fr.refl, Fr.nw, Fr.wr, Fr.drew, hE]
      exact hD
  · have he : writeE D x = okE D x := by unfold writeE; rw [if_neg hok]
    have hD : writeD D x s = D := by unfold writeD; rw [if_neg hok]
    rw [if_neg hok]
    try simp (maxDischargeDepth := 8) [↓bindV_some, ↓bindU_some, ↓condE_true, ↓condE_false, ↓pickE_true, ↓pickE_false, ↓pickE_or, ↓pickE_and, ↓grdE_true, ↓grdE_false, ↓grdE_tf, ↓grdE_ft, ↓grdE_undef, ↓nilE_pt, ↓thenK_normal, ↓thenK_exit, ↓thenK_ret, ↓thenK_goto, ↓thenK_panic, ↓blockK_exit, ↓blockK_normal, ↓blockK_ret, ↓blockK_goto, ↓blockK_panic, ↓loopK_normal, ↓loopK_exit, ↓loopK_ret, ↓loopK_goto, ↓loopK_panic, ↓topK_ret, ↓topK_normal, ↓topK_panic, ↓resVs_nil, ↓resVs_tmp, ↓resVs_cell, tup_one, tup_nil, tup_two, put_get, argE_get, ↓takeE_def, ↓heldE_nil, ↓heldE_cons, qNil_pt, qPick_bool, qGrd_bool, qGrd_undef, ↓letK_def, pBox_eq, pBin_add, pBin_sub, pBin_mul, pBin_eql, pBin_neq, pBin_lss, pBin_leq, pBin_gtr, pBin_geq, pUn_not, pUn_neg, eqB, neB, eqS, neS, pExtract0, pExtract1, pExtract2, max_int, min_int, sz_nw, sz_wr, sz_drew, mm_nw, fz_nw, mm_drew, fz_drew, fz_wr, sz_mkS, mm_mkS, fz_mkS, Fr.mkS, mm_wr_same, mm_wr_ne, wr_wr, bs_oneT, splice_full, gt_zero, gt_succ, gt_set, gt_bs, byte_eq0, byte_eq1, byte_n0, byte_n1, Fr.refl, Fr.nw, Fr.wr, Fr.drew, hok, he, hD, htz]
    exact ⟨F, hr1.fr0 (hfw _ _), (hf.trans0 (hfw _ _)).mono (by simp), fun k hk => .inl hk⟩
end Go.Proofs.Yticncfkpfpkfoaa
