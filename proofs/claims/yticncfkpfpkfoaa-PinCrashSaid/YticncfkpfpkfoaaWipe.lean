/- What Wipe computes. -/
import Derived.Test.YticncfkpfpkfoaaSTorn
set_option linter.unusedVariables false
set_option linter.unusedSimpArgs false
namespace Go.Proofs.Yticncfkpfpkfoaa
open Go

/-- A disk's blocks, grown from F. -/
structure Grow (F : List Nat) (w : World) (F' : List Nat) (w' : World) : Prop where
  fr : Fr F w w'
  new : ∀ k ∈ F', k ∈ F ∨ sz w ≤ k
theorem Grow.refl (F : List Nat) (w : World) : Grow F w F w := ⟨Fr.refl _ _, fun k hk => .inl hk⟩
theorem Grow.step {F F' F'' : List Nat} {w w' w'' : World} (h : Grow F w F' w') (hf : Fr F' w' w'') (hF : ∀ k ∈ F'', k ∈ F' ∨ sz w' ≤ k) : Grow F w F'' w'' :=
  ⟨h.fr.trans hf h.new, fun k hk => (hF k hk).elim (h.new k) fun h2 => .inr (Nat.le_trans h.fr.size h2)⟩
theorem Grow.same {F F' : List Nat} {w w' w'' : World} (h : Grow F w F' w') (hf : Fr F' w' w'') : Grow F w F' w'' := h.step hf fun k hk => .inl hk
theorem Grow.calm {F F' : List Nat} {w w' w'' : World} (h : Grow F w F' w') (hf : Fr [] w' w'') : Grow F w F' w'' := ⟨h.fr.trans0 hf, h.new⟩
theorem Own.grow {w0 w w' : World} {F F' : List Nat} (h : Own w0 w F) (g : Grow F w F' w') : Own w0 w' F' := h.step g.fr g.new

def wipeGo : Nat → DD → Int → Bool → DD × Int
  | 0, D, _, so => if so = true then (syncD D, if D.down then 14 else 0) else (D, 0)
  | n + 1, D, x, so =>
    if okE D x = 0 then
      if readD D x = zb 64 then wipeGo n D (x + 1) so
      else if writeE D x = 0 then wipeGo n (writeD D x (zb 64)) (x + 1) true
      else (writeD D x (zb 64), writeE D x)
    else (D, okE D x)

theorem okE_range {D : DD} {x : Int} (h : okE D x = 0) : 0 ≤ x ∧ x < D.firm.length ∧ D.down = false := by
  unfold okE at h
  split at h
  · omega
  · split at h
    · omega
    · rename_i h1 h2
      exact ⟨by omega, by omega, by simpa using h1⟩
theorem okE_cases (D : DD) (x : Int) : okE D x = 0 ∨ okE D x = 1 ∨ okE D x = 14 := by
  unfold okE; split
  · exact .inr (.inr rfl)
  · split
    · exact .inr (.inl rfl)
    · exact .inl rfl

def WipeI (G : DD × Int) (w : World) (b : Nat) (D : DD) (F : List Nat) (x : Int) (n : Nat) (m : Nat) (e : Env) (w' : World) : Prop :=
  ∃ (k : Nat) (D' : DD) (F' : List Nat) (so : Bool), m = n - k ∧ k ≤ n ∧ IsD w' b D' F' ∧ Grow F w F' w' ∧ D'.pend.length ≤ D.pend.length + k ∧
    D'.writes ≤ D.writes + k ∧ wipeGo (n - k) D' (x + k) so = G ∧ (k = 0 ∨ (0 ≤ x + k ∧ x + k ≤ 5000)) ∧
    e 15 = i64 k ∧ e 14 = i64 n ∧ e 0 = pt b 0 ∧ e 1 = i64 x ∧ e 7 = .bool so

theorem wipe_spec {w : World} {b : Nat} {D : DD} {F : List Nat} {x ni : Int} {n : Nat} (h : IsD w b D F) (hx0 : -9223372036854775808 ≤ x) (hx1 : x < 9223372036854775808)
    (hn : n ≤ 1000) (hni : max ni 0 = n) (hm : D.pend.length + n < 1000000) (hwr : D.writes + n < 4611686018427387904) :
    Ret P 42 #[pt b 0, i64 x, i64 ni] w fun v w' => v = i64 (wipeGo n D x false).2 ∧ ∃ F', IsD w' b (wipeGo n D x false).1 F' ∧ Grow F w F' w' := by
  refine F42ok ?_
  unfold F42
  try simp (maxDischargeDepth := 8) [max_int, hni, ↓bindV_some, ↓bindU_some, ↓condE_true, ↓condE_false, ↓pickE_true, ↓pickE_false, ↓pickE_or, ↓pickE_and, ↓grdE_true, ↓grdE_false, ↓grdE_tf, ↓grdE_ft, ↓grdE_undef, ↓nilE_pt, ↓thenK_normal, ↓thenK_exit, ↓thenK_ret, ↓thenK_goto, ↓thenK_panic, ↓blockK_exit, ↓blockK_normal, ↓blockK_ret, ↓blockK_goto, ↓blockK_panic, ↓loopK_normal, ↓loopK_exit, ↓loopK_ret, ↓loopK_goto, ↓loopK_panic, ↓topK_ret, ↓topK_normal, ↓topK_panic, ↓resVs_nil, ↓resVs_tmp, ↓resVs_cell, tup_one, tup_nil, tup_two, put_get, argE_get, ↓takeE_def, ↓heldE_nil, ↓heldE_cons, qNil_pt, qPick_bool, qGrd_bool, qGrd_undef, ↓letK_def, pBox_eq, pBin_add, pBin_sub, pBin_mul, pBin_eql, pBin_neq, pBin_lss, pBin_leq, pBin_gtr, pBin_geq, pUn_not, pUn_neg, eqB, neB, eqS, neS, pExtract0, pExtract1, pExtract2, max_int, min_int, sz_nw, sz_wr, sz_drew, mm_nw, fz_nw, mm_drew, fz_drew, fz_wr, sz_mkS, mm_mkS, fz_mkS, Fr.mkS, mm_wr_same, mm_wr_ne, wr_wr, bs_oneT, splice_full, gt_zero, gt_succ, gt_set, gt_bs, byte_eq0, byte_eq1, byte_n0, byte_n1, Fr.refl, Fr.nw, Fr.wr, Fr.drew]
  obtain ⟨G, hG⟩ : ∃ G, G = wipeGo n D x false := ⟨_, rfl⟩
  rw [← hG]
  refine loopE_of (WipeI G w b D F x n) n ?_ ?_
  · refine ⟨0, D, F, false, by omega, by omega, h, Grow.refl _ _, by omega, by omega, by simp [hG], .inl rfl, ?_⟩
    simp [put_get, argE_get]
  · rintro m e w' ⟨k, D', F', so, rfl, hk, hd, hg, hp, hw', hgo, hr, e15, e14, e0, e1, e7⟩
    unfold F42B0
    by_cases hkn : k < n
    · have hrange : -9223372036854775808 ≤ x + k ∧ x + k < 9223372036854775808 := by
        rcases hr with rfl | ⟨h1, h2⟩
        · simp; exact ⟨hx0, hx1⟩
        · omega
      have hwx : IntKind.i64.wrap (x + k) = x + k := wrap64 hrange.1 (by omega)
      have hwk : IntKind.i64.wrap ((k : Int) + 1) = ((k + 1 : Nat) : Int) := wrap64 (by omega) (by omega)
      have hki : (k : Int) < n := by omega
      obtain ⟨j, hj⟩ : ∃ j, n - k = j + 1 := ⟨n - k - 1, by omega⟩
      have hj' : n - (k + 1) = j := by omega
      rw [hj] at hgo
      unfold wipeGo at hgo
      try simp (maxDischargeDepth := 8) [↓bindV_some, ↓bindU_some, ↓condE_true, ↓condE_false, ↓pickE_true, ↓pickE_false, ↓pickE_or, ↓pickE_and, ↓grdE_true, ↓grdE_false, ↓grdE_tf, ↓grdE_ft, ↓grdE_undef, ↓nilE_pt, ↓thenK_normal, ↓thenK_exit, ↓thenK_ret, ↓thenK_goto, ↓thenK_panic, ↓blockK_exit, ↓blockK_normal, ↓blockK_ret, ↓blockK_goto, ↓blockK_panic, ↓loopK_normal, ↓loopK_exit, ↓loopK_ret, ↓loopK_goto, ↓loopK_panic, ↓topK_ret, ↓topK_normal, ↓topK_panic, ↓resVs_nil, ↓resVs_tmp, ↓resVs_cell, tup_one, tup_nil, tup_two, put_get, argE_get, ↓takeE_def, ↓heldE_nil, ↓heldE_cons, qNil_pt, qPick_bool, qGrd_bool, qGrd_undef, ↓letK_def, pBox_eq, pBin_add, pBin_sub, pBin_mul, pBin_eql, pBin_neq, pBin_lss, pBin_leq, pBin_gtr, pBin_geq, pUn_not, pUn_neg, eqB, neB, eqS, neS, pExtract0, pExtract1, pExtract2, max_int, min_int, sz_nw, sz_wr, sz_drew, mm_nw, fz_nw, mm_drew, fz_drew, fz_wr, sz_mkS, mm_mkS, fz_mkS, Fr.mkS, mm_wr_same, mm_wr_ne, wr_wr, bs_oneT, splice_full, gt_zero, gt_succ, gt_set, gt_bs, byte_eq0, byte_eq1, byte_n0, byte_n1, Fr.refl, Fr.nw, Fr.wr, Fr.drew, e15, e14, e0, e1, hwx, hki]
      refine (read_spec hd hrange.1 hrange.2).call ?_
      rintro _ w1 ⟨rfl, hf1⟩
      have hd1 := hd.fr0 hf1
      by_cases hok : okE D' (x + k) = 0
      · obtain ⟨hr0, hr1, hdn⟩ := okE_range hok
        have hlen : (readD D' (x + k)).length = 64 := readD_len hd.1 hr0 hr1
        have hf4096 := hd.1.len
        rw [if_pos hok] at hgo
        generalize hS : readD D' (x + k) = S at *
        rw [hok, if_pos rfl]
        try simp (maxDischargeDepth := 8) [↓bindV_some, ↓bindU_some, ↓condE_true, ↓condE_false, ↓pickE_true, ↓pickE_false, ↓pickE_or, ↓pickE_and, ↓grdE_true, ↓grdE_false, ↓grdE_tf, ↓grdE_ft, ↓grdE_undef, ↓nilE_pt, ↓thenK_normal, ↓thenK_exit, ↓thenK_ret, ↓thenK_goto, ↓thenK_panic, ↓blockK_exit, ↓blockK_normal, ↓blockK_ret, ↓blockK_goto, ↓blockK_panic, ↓loopK_normal, ↓loopK_exit, ↓loopK_ret, ↓loopK_goto, ↓loopK_panic, ↓topK_ret, ↓topK_normal, ↓topK_panic, ↓resVs_nil, ↓resVs_tmp, ↓resVs_cell, tup_one, tup_nil, tup_two, put_get, argE_get, ↓takeE_def, ↓heldE_nil, ↓heldE_cons, qNil_pt, qPick_bool, qGrd_bool, qGrd_undef, ↓letK_def, pBox_eq, pBin_add, pBin_sub, pBin_mul, pBin_eql, pBin_neq, pBin_lss, pBin_leq, pBin_gtr, pBin_geq, pUn_not, pUn_neg, eqB, neB, eqS, neS, pExtract0, pExtract1, pExtract2, max_int, min_int, sz_nw, sz_wr, sz_drew, mm_nw, fz_nw, mm_drew, fz_drew, fz_wr, sz_mkS, mm_mkS, fz_mkS, Fr.mkS, mm_wr_same, mm_wr_ne, wr_wr, bs_oneT, splice_full, gt_zero, gt_succ, gt_set, gt_bs, byte_eq0, byte_eq1, byte_n0, byte_n1, Fr.refl, Fr.nw, Fr.wr, Fr.drew, e15, e14, e0, e1, hwx, hlen, List.take_of_length_le]
        generalize hw2 : wr (nw w1 (bs (zb 64)) 25) (sz w1) (bs S) = w2
        have hf2 : Fr [] w1 w2 := by rw [← hw2]; exact ((Fr.refl [] w1).nw _ _).wr (.inr (Nat.le_refl _)) _
        have hd2 := hd1.fr0 hf2
        refine (blank_spec hlen).call ?_
        rintro _ w3 ⟨rfl, hf3⟩
        have hd3 := hd2.fr0 hf3
        have hg3 := ((hg.calm hf1).calm hf2).calm hf3
        by_cases hz : S = zeros
        · rw [if_pos hz] at hgo
          try simp (maxDischargeDepth := 8) [↓bindV_some, ↓bindU_some, ↓condE_true, ↓condE_false, ↓pickE_true, ↓pickE_false, ↓pickE_or, ↓pickE_and, ↓grdE_true, ↓grdE_false, ↓grdE_tf, ↓grdE_ft, ↓grdE_undef, ↓nilE_pt, ↓thenK_normal, ↓thenK_exit, ↓thenK_ret, ↓thenK_goto, ↓thenK_panic, ↓blockK_exit, ↓blockK_normal, ↓blockK_ret, ↓blockK_goto, ↓blockK_panic, ↓loopK_normal, ↓loopK_exit, ↓loopK_ret, ↓loopK_goto, ↓loopK_panic, ↓topK_ret, ↓topK_normal, ↓topK_panic, ↓resVs_nil, ↓resVs_tmp, ↓resVs_cell, tup_one, tup_nil, tup_two, put_get, argE_get, ↓takeE_def, ↓heldE_nil, ↓heldE_cons, qNil_pt, qPick_bool, qGrd_bool, qGrd_undef, ↓letK_def, pBox_eq, pBin_add, pBin_sub, pBin_mul, pBin_eql, pBin_neq, pBin_lss, pBin_leq, pBin_gtr, pBin_geq, pUn_not, pUn_neg, eqB, neB, eqS, neS, pExtract0, pExtract1, pExtract2, max_int, min_int, sz_nw, sz_wr, sz_drew, mm_nw, fz_nw, mm_drew, fz_drew, fz_wr, sz_mkS, mm_mkS, fz_mkS, Fr.mkS, mm_wr_same, mm_wr_ne, wr_wr, bs_oneT, splice_full, gt_zero, gt_succ, gt_set, gt_bs, byte_eq0, byte_eq1, byte_n0, byte_n1, Fr.refl, Fr.nw, Fr.wr, Fr.drew, e15, e14, e0, e1, hwx, hz, hwk]
          refine ⟨n - (k + 1), by omega, k + 1, D', F', so, rfl, by omega, hd3, hg3, by omega, by omega, ?_, ?_, ?_⟩
          · rw [hj', ← hgo]; congr 1; omega
          · right; omega
          · simp [put_get, e15, e14, e0, e1, e7]
        · rw [if_neg hz] at hgo
          try simp (maxDischargeDepth := 8) [↓bindV_some, ↓bindU_some, ↓condE_true, ↓condE_false, ↓pickE_true, ↓pickE_false, ↓pickE_or, ↓pickE_and, ↓grdE_true, ↓grdE_false, ↓grdE_tf, ↓grdE_ft, ↓grdE_undef, ↓nilE_pt, ↓thenK_normal, ↓thenK_exit, ↓thenK_ret, ↓thenK_goto, ↓thenK_panic, ↓blockK_exit, ↓blockK_normal, ↓blockK_ret, ↓blockK_goto, ↓blockK_panic, ↓loopK_normal, ↓loopK_exit, ↓loopK_ret, ↓loopK_goto, ↓loopK_panic, ↓topK_ret, ↓topK_normal, ↓topK_panic, ↓resVs_nil, ↓resVs_tmp, ↓resVs_cell, tup_one, tup_nil, tup_two, put_get, argE_get, ↓takeE_def, ↓heldE_nil, ↓heldE_cons, qNil_pt, qPick_bool, qGrd_bool, qGrd_undef, ↓letK_def, pBox_eq, pBin_add, pBin_sub, pBin_mul, pBin_eql, pBin_neq, pBin_lss, pBin_leq, pBin_gtr, pBin_geq, pUn_not, pUn_neg, eqB, neB, eqS, neS, pExtract0, pExtract1, pExtract2, max_int, min_int, sz_nw, sz_wr, sz_drew, mm_nw, fz_nw, mm_drew, fz_drew, fz_wr, sz_mkS, mm_mkS, fz_mkS, Fr.mkS, mm_wr_same, mm_wr_ne, wr_wr, bs_oneT, splice_full, gt_zero, gt_succ, gt_set, gt_bs, byte_eq0, byte_eq1, byte_n0, byte_n1, Fr.refl, Fr.nw, Fr.wr, Fr.drew, e15, e14, e0, e1, hwx, hz, hwk]
          refine (write_spec hd3 (x := x + k) (s := zb 64) (by simp) (by omega) (by omega)).call ?_
          rintro _ w4 ⟨rfl, F4, hd4, hf4, hF4⟩
          have hg4 := hg3.step hf4 hF4
          have hpl : (writeD D' (x + k) (zb 64)).pend.length = D'.pend.length + 1 := by simp [writeD, hok]
          have hwl : (writeD D' (x + k) (zb 64)).writes = D'.writes + 1 := by simp [writeD, hok]
          by_cases hwe : writeE D' (x + k) = 0
          · rw [if_pos hwe] at hgo
            try simp (maxDischargeDepth := 8) [↓bindV_some, ↓bindU_some, ↓condE_true, ↓condE_false, ↓pickE_true, ↓pickE_false, ↓pickE_or, ↓pickE_and, ↓grdE_true, ↓grdE_false, ↓grdE_tf, ↓grdE_ft, ↓grdE_undef, ↓nilE_pt, ↓thenK_normal, ↓thenK_exit, ↓thenK_ret, ↓thenK_goto, ↓thenK_panic, ↓blockK_exit, ↓blockK_normal, ↓blockK_ret, ↓blockK_goto, ↓blockK_panic, ↓loopK_normal, ↓loopK_exit, ↓loopK_ret, ↓loopK_goto, ↓loopK_panic, ↓topK_ret, ↓topK_normal, ↓topK_panic, ↓resVs_nil, ↓resVs_tmp, ↓resVs_cell, tup_one, tup_nil, tup_two, put_get, argE_get, ↓takeE_def, ↓heldE_nil, ↓heldE_cons, qNil_pt, qPick_bool, qGrd_bool, qGrd_undef, ↓letK_def, pBox_eq, pBin_add, pBin_sub, pBin_mul, pBin_eql, pBin_neq, pBin_lss, pBin_leq, pBin_gtr, pBin_geq, pUn_not, pUn_neg, eqB, neB, eqS, neS, pExtract0, pExtract1, pExtract2, max_int, min_int, sz_nw, sz_wr, sz_drew, mm_nw, fz_nw, mm_drew, fz_drew, fz_wr, sz_mkS, mm_mkS, fz_mkS, Fr.mkS, mm_wr_same, mm_wr_ne, wr_wr, bs_oneT, splice_full, gt_zero, gt_succ, gt_set, gt_bs, byte_eq0, byte_eq1, byte_n0, byte_n1, Fr.refl, Fr.nw, Fr.wr, Fr.drew, e15, e14, e0, e1, hwx, hz, hwk, hwe]
            refine ⟨n - (k + 1), by omega, k + 1, writeD D' (x + k) (zb 64), F4, true, rfl, by omega, hd4, hg4, by omega, by omega, ?_, ?_, ?_⟩
            · rw [hj', ← hgo]; congr 1; omega
            · right; omega
            · simp [put_get, e15, e14, e0, e1, e7]
          · rw [if_neg hwe] at hgo
            try simp (maxDischargeDepth := 8) [↓bindV_some, ↓bindU_some, ↓condE_true, ↓condE_false, ↓pickE_true, ↓pickE_false, ↓pickE_or, ↓pickE_and, ↓grdE_true, ↓grdE_false, ↓grdE_tf, ↓grdE_ft, ↓grdE_undef, ↓nilE_pt, ↓thenK_normal, ↓thenK_exit, ↓thenK_ret, ↓thenK_goto, ↓thenK_panic, ↓blockK_exit, ↓blockK_normal, ↓blockK_ret, ↓blockK_goto, ↓blockK_panic, ↓loopK_normal, ↓loopK_exit, ↓loopK_ret, ↓loopK_goto, ↓loopK_panic, ↓topK_ret, ↓topK_normal, ↓topK_panic, ↓resVs_nil, ↓resVs_tmp, ↓resVs_cell, tup_one, tup_nil, tup_two, put_get, argE_get, ↓takeE_def, ↓heldE_nil, ↓heldE_cons, qNil_pt, qPick_bool, qGrd_bool, qGrd_undef, ↓letK_def, pBox_eq, pBin_add, pBin_sub, pBin_mul, pBin_eql, pBin_neq, pBin_lss, pBin_leq, pBin_gtr, pBin_geq, pUn_not, pUn_neg, eqB, neB, eqS, neS, pExtract0, pExtract1, pExtract2, max_int, min_int, sz_nw, sz_wr, sz_drew, mm_nw, fz_nw, mm_drew, fz_drew, fz_wr, sz_mkS, mm_mkS, fz_mkS, Fr.mkS, mm_wr_same, mm_wr_ne, wr_wr, bs_oneT, splice_full, gt_zero, gt_succ, gt_set, gt_bs, byte_eq0, byte_eq1, byte_n0, byte_n1, Fr.refl, Fr.nw, Fr.wr, Fr.drew, e15, e14, e0, e1, hwx, hz, hwk, hwe]
            rw [← hgo]
            exact ⟨rfl, F4, hd4, hg4⟩
      · rw [if_neg hok] at hgo
        rw [if_neg hok]
        try simp (maxDischargeDepth := 8) [↓bindV_some, ↓bindU_some, ↓condE_true, ↓condE_false, ↓pickE_true, ↓pickE_false, ↓pickE_or, ↓pickE_and, ↓grdE_true, ↓grdE_false, ↓grdE_tf, ↓grdE_ft, ↓grdE_undef, ↓nilE_pt, ↓thenK_normal, ↓thenK_exit, ↓thenK_ret, ↓thenK_goto, ↓thenK_panic, ↓blockK_exit, ↓blockK_normal, ↓blockK_ret, ↓blockK_goto, ↓blockK_panic, ↓loopK_normal, ↓loopK_exit, ↓loopK_ret, ↓loopK_goto, ↓loopK_panic, ↓topK_ret, ↓topK_normal, ↓topK_panic, ↓resVs_nil, ↓resVs_tmp, ↓resVs_cell, tup_one, tup_nil, tup_two, put_get, argE_get, ↓takeE_def, ↓heldE_nil, ↓heldE_cons, qNil_pt, qPick_bool, qGrd_bool, qGrd_undef, ↓letK_def, pBox_eq, pBin_add, pBin_sub, pBin_mul, pBin_eql, pBin_neq, pBin_lss, pBin_leq, pBin_gtr, pBin_geq, pUn_not, pUn_neg, eqB, neB, eqS, neS, pExtract0, pExtract1, pExtract2, max_int, min_int, sz_nw, sz_wr, sz_drew, mm_nw, fz_nw, mm_drew, fz_drew, fz_wr, sz_mkS, mm_mkS, fz_mkS, Fr.mkS, mm_wr_same, mm_wr_ne, wr_wr, bs_oneT, splice_full, gt_zero, gt_succ, gt_set, gt_bs, byte_eq0, byte_eq1, byte_n0, byte_n1, Fr.refl, Fr.nw, Fr.wr, Fr.drew, e15, e14, e0, e1, hwx, hok]
        have hf2 : Fr [] w1 (wr (nw w1 (bs (zb 64)) 25) (sz w1) (bs (zb 64))) := ((Fr.refl [] w1).nw _ _).wr (.inr (Nat.le_refl _)) _
        rw [← hgo]
        exact ⟨rfl, F', hd1.fr0 hf2, (hg.calm hf1).calm hf2⟩
    · have hkk : k = n := by omega
      subst hkk
      rw [Nat.sub_self] at hgo
      unfold wipeGo at hgo
      cases so with
      | false =>
        try simp (maxDischargeDepth := 8) [↓bindV_some, ↓bindU_some, ↓condE_true, ↓condE_false, ↓pickE_true, ↓pickE_false, ↓pickE_or, ↓pickE_and, ↓grdE_true, ↓grdE_false, ↓grdE_tf, ↓grdE_ft, ↓grdE_undef, ↓nilE_pt, ↓thenK_normal, ↓thenK_exit, ↓thenK_ret, ↓thenK_goto, ↓thenK_panic, ↓blockK_exit, ↓blockK_normal, ↓blockK_ret, ↓blockK_goto, ↓blockK_panic, ↓loopK_normal, ↓loopK_exit, ↓loopK_ret, ↓loopK_goto, ↓loopK_panic, ↓topK_ret, ↓topK_normal, ↓topK_panic, ↓resVs_nil, ↓resVs_tmp, ↓resVs_cell, tup_one, tup_nil, tup_two, put_get, argE_get, ↓takeE_def, ↓heldE_nil, ↓heldE_cons, qNil_pt, qPick_bool, qGrd_bool, qGrd_undef, ↓letK_def, pBox_eq, pBin_add, pBin_sub, pBin_mul, pBin_eql, pBin_neq, pBin_lss, pBin_leq, pBin_gtr, pBin_geq, pUn_not, pUn_neg, eqB, neB, eqS, neS, pExtract0, pExtract1, pExtract2, max_int, min_int, sz_nw, sz_wr, sz_drew, mm_nw, fz_nw, mm_drew, fz_drew, fz_wr, sz_mkS, mm_mkS, fz_mkS, Fr.mkS, mm_wr_same, mm_wr_ne, wr_wr, bs_oneT, splice_full, gt_zero, gt_succ, gt_set, gt_bs, byte_eq0, byte_eq1, byte_n0, byte_n1, Fr.refl, Fr.nw, Fr.wr, Fr.drew, e15, e14, e0, e1, e7]
        rw [← hgo]
        exact ⟨rfl, F', hd, hg⟩
      | true =>
        try simp (maxDischargeDepth := 8) [↓bindV_some, ↓bindU_some, ↓condE_true, ↓condE_false, ↓pickE_true, ↓pickE_false, ↓pickE_or, ↓pickE_and, ↓grdE_true, ↓grdE_false, ↓grdE_tf, ↓grdE_ft, ↓grdE_undef, ↓nilE_pt, ↓thenK_normal, ↓thenK_exit, ↓thenK_ret, ↓thenK_goto, ↓thenK_panic, ↓blockK_exit, ↓blockK_normal, ↓blockK_ret, ↓blockK_goto, ↓blockK_panic, ↓loopK_normal, ↓loopK_exit, ↓loopK_ret, ↓loopK_goto, ↓loopK_panic, ↓topK_ret, ↓topK_normal, ↓topK_panic, ↓resVs_nil, ↓resVs_tmp, ↓resVs_cell, tup_one, tup_nil, tup_two, put_get, argE_get, ↓takeE_def, ↓heldE_nil, ↓heldE_cons, qNil_pt, qPick_bool, qGrd_bool, qGrd_undef, ↓letK_def, pBox_eq, pBin_add, pBin_sub, pBin_mul, pBin_eql, pBin_neq, pBin_lss, pBin_leq, pBin_gtr, pBin_geq, pUn_not, pUn_neg, eqB, neB, eqS, neS, pExtract0, pExtract1, pExtract2, max_int, min_int, sz_nw, sz_wr, sz_drew, mm_nw, fz_nw, mm_drew, fz_drew, fz_wr, sz_mkS, mm_mkS, fz_mkS, Fr.mkS, mm_wr_same, mm_wr_ne, wr_wr, bs_oneT, splice_full, gt_zero, gt_succ, gt_set, gt_bs, byte_eq0, byte_eq1, byte_n0, byte_n1, Fr.refl, Fr.nw, Fr.wr, Fr.drew, e15, e14, e0, e1, e7]
        refine (sync_spec hd).call ?_
        rintro _ w1 ⟨rfl, hd1, hf1⟩
        try simp (maxDischargeDepth := 8) [↓bindV_some, ↓bindU_some, ↓condE_true, ↓condE_false, ↓pickE_true, ↓pickE_false, ↓pickE_or, ↓pickE_and, ↓grdE_true, ↓grdE_false, ↓grdE_tf, ↓grdE_ft, ↓grdE_undef, ↓nilE_pt, ↓thenK_normal, ↓thenK_exit, ↓thenK_ret, ↓thenK_goto, ↓thenK_panic, ↓blockK_exit, ↓blockK_normal, ↓blockK_ret, ↓blockK_goto, ↓blockK_panic, ↓loopK_normal, ↓loopK_exit, ↓loopK_ret, ↓loopK_goto, ↓loopK_panic, ↓topK_ret, ↓topK_normal, ↓topK_panic, ↓resVs_nil, ↓resVs_tmp, ↓resVs_cell, tup_one, tup_nil, tup_two, put_get, argE_get, ↓takeE_def, ↓heldE_nil, ↓heldE_cons, qNil_pt, qPick_bool, qGrd_bool, qGrd_undef, ↓letK_def, pBox_eq, pBin_add, pBin_sub, pBin_mul, pBin_eql, pBin_neq, pBin_lss, pBin_leq, pBin_gtr, pBin_geq, pUn_not, pUn_neg, eqB, neB, eqS, neS, pExtract0, pExtract1, pExtract2, max_int, min_int, sz_nw, sz_wr, sz_drew, mm_nw, fz_nw, mm_drew, fz_drew, fz_wr, sz_mkS, mm_mkS, fz_mkS, Fr.mkS, mm_wr_same, mm_wr_ne, wr_wr, bs_oneT, splice_full, gt_zero, gt_succ, gt_set, gt_bs, byte_eq0, byte_eq1, byte_n0, byte_n1, Fr.refl, Fr.nw, Fr.wr, Fr.drew]
        rw [← hgo]
        exact ⟨rfl, F', hd1, hg.same hf1⟩
end Go.Proofs.Yticncfkpfpkfoaa
