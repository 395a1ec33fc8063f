/- The document's disk: what its functions compute, in terms of the same disk DD. -/
import Derived.Test.YticncfkpfpkfoaaDKeeps0
import Derived.Test.YticncfkpfpkfoaaWDoes
set_option linter.unusedVariables false
set_option linter.unusedSimpArgs false
namespace Go.Proofs.Yticncfkpfpkfoaa
open Go

/-- What is there now, sector by sector. -/
def nowD (D : DD) : List (List UInt8) := (List.range D.firm.length).map (view D)
theorem nowD_length (D : DD) : (nowD D).length = D.firm.length := by simp [nowD]
theorem nowD_get {D : DD} {i : Nat} (h : i < D.firm.length) : (nowD D)[i]? = some (view D i) := by simp [nowD, h]
theorem nowD_secs {D : DD} (h : WfD D) : ∀ s ∈ nowD D, s.length = 64 := by
  intro s hs
  simp only [nowD, List.mem_map, List.mem_range] at hs
  obtain ⟨i, hi, rfl⟩ := hs
  exact readD_len h (by omega) (by omega)
def atL (D : DD) : List Value := D.pend.map fun p => i64 p.1
def whL (D : DD) : List (List UInt8) := D.pend.map (·.2)
/-- At block 'b' lies the document's disk 'D'; 'F' are all blocks that it is made of. -/
def IsR (w : World) (b : Nat) (D : DD) (F : List Nat) : Prop :=
  WfD D ∧ ∃ (fb nb : Nat) (av wv : Value), mm w b = [sl fb 0 D.firm.length D.firm.length, sl nb 0 D.firm.length D.firm.length, av, wv, i64 D.left, .bool D.down, i64 D.writes] ∧ fz w b = false ∧
    mm w fb = flat bs D.firm ∧ fz w fb = false ∧ mm w nb = flat bs (nowD D) ∧ fz w nb = false ∧
    w.ownsRow 0 3 1 av D.pend.length (atL D) ∧ w.ownsRow 0 25 64 wv D.pend.length (flat bs (whL D)) ∧
    b ≠ fb ∧ b ≠ nb ∧ fb ≠ nb ∧ (∀ k, av.ownBlock = some k → k ≠ b ∧ k ≠ fb ∧ k ≠ nb ∧ wv.ownBlock ≠ some k) ∧ (∀ k, wv.ownBlock = some k → k ≠ b ∧ k ≠ fb ∧ k ≠ nb) ∧
    b ∈ F ∧ fb ∈ F ∧ nb ∈ F ∧ (∀ k, av.ownBlock = some k → k ∈ F) ∧ (∀ k, wv.ownBlock = some k → k ∈ F) ∧ ∀ k ∈ F, k < sz w
theorem IsR.fr {w w' : World} {b : Nat} {D : DD} {F S : List Nat} (h : IsR w b D F) (hf : Fr S w w') (hS : ∀ k ∈ F, k ∉ S) : IsR w' b D F := by
  obtain ⟨hw, fb, nb, av, wv, h1, h2, h3, h4, h5, h6, h7, h8, n1, n2, n3, n4, n5, m1, m2, m3, m4, m5, m6⟩ := h
  refine ⟨hw, fb, nb, av, wv, ?_, ?_, ?_, ?_, ?_, ?_, own_fr h7 hf (fun k hk => hS k (m4 k hk)), own_fr h8 hf (fun k hk => hS k (m5 k hk)), n1, n2, n3, n4, n5, m1, m2, m3, m4, m5, fun k hk => hf.lt (m6 k hk)⟩
  · rw [hf.mm (m6 b m1) (hS b m1), h1]
  · rw [hf.fz (m6 b m1) (hS b m1), h2]
  · rw [hf.mm (m6 fb m2) (hS fb m2), h3]
  · rw [hf.fz (m6 fb m2) (hS fb m2), h4]
  · rw [hf.mm (m6 nb m3) (hS nb m3), h5]
  · rw [hf.fz (m6 nb m3) (hS nb m3), h6]
theorem IsR.fr0 {w w' : World} {b : Nat} {D : DD} {F : List Nat} (h : IsR w b D F) (hf : Fr [] w w') : IsR w' b D F := h.fr hf (by simp)

theorem rread_spec {w : World} {b : Nat} {D : DD} {F : List Nat} {x : Int} (h : IsR w b D F) (hx0 : -9223372036854775808 ≤ x) (hx1 : x < 9223372036854775808) :
    Ret P 71 #[pt b 0, i64 x] w fun v w' => v = .tuple #[sec (if okE D x = 0 then readD D x else zb 64), i64 (okE D x)] ∧ Fr [] w w' := by
  refine F71ok ?_
  unfold F71
  obtain ⟨hw, fb, nb, av, wv, h1, h2, h3, h4, h5, h6, h7, h8, n1, n2, n3, n4, n5, m1, m2, m3, m4, m5, m6⟩ := h
  have hb := m6 b m1
  have hnb := m6 nb m3
  have hf0 : ∀ t t', Fr [] w (wr (nw w t 25) (sz w) t') := fun t t' => ((Fr.refl [] w).nw _ _).wr (.inr (Nat.le_refl _)) _
  have hsp : ∀ l : List UInt8, l.length = 64 → splice (bs (zb 64)) 0 (bs l) = bs l := fun l hl => splice_full (by simp [hl])
  have htz : List.take 64 (bs (zb 64)) = bs (zb 64) := List.take_of_length_le (by simp)
  cases hd : D.down with
  | true =>
    have hok : okE D x = 14 := by unfold okE; rw [hd]; rfl
    try simp (maxDischargeDepth := 8) [↓bindV_some, ↓bindU_some, ↓condE_true, ↓condE_false, ↓pickE_true, ↓pickE_false, ↓pickE_or, ↓pickE_and, ↓grdE_true, ↓grdE_false, ↓grdE_tf, ↓grdE_ft, ↓grdE_undef, ↓nilE_pt, ↓thenK_normal, ↓thenK_exit, ↓thenK_ret, ↓thenK_goto, ↓thenK_panic, ↓blockK_exit, ↓blockK_normal, ↓blockK_ret, ↓blockK_goto, ↓blockK_panic, ↓loopK_normal, ↓loopK_exit, ↓loopK_ret, ↓loopK_goto, ↓loopK_panic, ↓topK_ret, ↓topK_normal, ↓topK_panic, ↓resVs_nil, ↓resVs_tmp, ↓resVs_cell, tup_one, tup_nil, tup_two, put_get, argE_get, ↓takeE_def, ↓heldE_nil, ↓heldE_cons, qNil_pt, qPick_bool, qGrd_bool, qGrd_undef, ↓letK_def, pBox_eq, pBin_add, pBin_sub, pBin_mul, pBin_eql, pBin_neq, pBin_lss, pBin_leq, pBin_gtr, pBin_geq, pUn_not, pUn_neg, eqB, neB, eqS, neS, pExtract0, pExtract1, pExtract2, max_int, min_int, sz_nw, sz_wr, sz_drew, mm_nw, fz_nw, mm_drew, fz_drew, fz_wr, sz_mkS, mm_mkS, fz_mkS, Fr.mkS, mm_wr_same, mm_wr_ne, wr_wr, bs_oneT, splice_full, gt_zero, gt_succ, gt_set, gt_bs, byte_eq0, byte_eq1, byte_n0, byte_n1, Fr.refl, Fr.nw, Fr.wr, Fr.drew, ne_lt hb, h1, hd, hok, hsp, hf0, htz]
  | false =>
    by_cases hx : x < 0
    · have hok : okE D x = 1 := by unfold okE; rw [hd]; simp; omega
      try simp (maxDischargeDepth := 8) [↓bindV_some, ↓bindU_some, ↓condE_true, ↓condE_false, ↓pickE_true, ↓pickE_false, ↓pickE_or, ↓pickE_and, ↓grdE_true, ↓grdE_false, ↓grdE_tf, ↓grdE_ft, ↓grdE_undef, ↓nilE_pt, ↓thenK_normal, ↓thenK_exit, ↓thenK_ret, ↓thenK_goto, ↓thenK_panic, ↓blockK_exit, ↓blockK_normal, ↓blockK_ret, ↓blockK_goto, ↓blockK_panic, ↓loopK_normal, ↓loopK_exit, ↓loopK_ret, ↓loopK_goto, ↓loopK_panic, ↓topK_ret, ↓topK_normal, ↓topK_panic, ↓resVs_nil, ↓resVs_tmp, ↓resVs_cell, tup_one, tup_nil, tup_two, put_get, argE_get, ↓takeE_def, ↓heldE_nil, ↓heldE_cons, qNil_pt, qPick_bool, qGrd_bool, qGrd_undef, ↓letK_def, pBox_eq, pBin_add, pBin_sub, pBin_mul, pBin_eql, pBin_neq, pBin_lss, pBin_leq, pBin_gtr, pBin_geq, pUn_not, pUn_neg, eqB, neB, eqS, neS, pExtract0, pExtract1, pExtract2, max_int, min_int, sz_nw, sz_wr, sz_drew, mm_nw, fz_nw, mm_drew, fz_drew, fz_wr, sz_mkS, mm_mkS, fz_mkS, Fr.mkS, mm_wr_same, mm_wr_ne, wr_wr, bs_oneT, splice_full, gt_zero, gt_succ, gt_set, gt_bs, byte_eq0, byte_eq1, byte_n0, byte_n1, Fr.refl, Fr.nw, Fr.wr, Fr.drew, ne_lt hb, h1, hd, hok, hx, hsp, hf0, htz]
    · by_cases hxl : (D.firm.length : Int) ≤ x
      · have hok : okE D x = 1 := by unfold okE; rw [hd]; simp; omega
        try simp (maxDischargeDepth := 8) [↓bindV_some, ↓bindU_some, ↓condE_true, ↓condE_false, ↓pickE_true, ↓pickE_false, ↓pickE_or, ↓pickE_and, ↓grdE_true, ↓grdE_false, ↓grdE_tf, ↓grdE_ft, ↓grdE_undef, ↓nilE_pt, ↓thenK_normal, ↓thenK_exit, ↓thenK_ret, ↓thenK_goto, ↓thenK_panic, ↓blockK_exit, ↓blockK_normal, ↓blockK_ret, ↓blockK_goto, ↓blockK_panic, ↓loopK_normal, ↓loopK_exit, ↓loopK_ret, ↓loopK_goto, ↓loopK_panic, ↓topK_ret, ↓topK_normal, ↓topK_panic, ↓resVs_nil, ↓resVs_tmp, ↓resVs_cell, tup_one, tup_nil, tup_two, put_get, argE_get, ↓takeE_def, ↓heldE_nil, ↓heldE_cons, qNil_pt, qPick_bool, qGrd_bool, qGrd_undef, ↓letK_def, pBox_eq, pBin_add, pBin_sub, pBin_mul, pBin_eql, pBin_neq, pBin_lss, pBin_leq, pBin_gtr, pBin_geq, pUn_not, pUn_neg, eqB, neB, eqS, neS, pExtract0, pExtract1, pExtract2, max_int, min_int, sz_nw, sz_wr, sz_drew, mm_nw, fz_nw, mm_drew, fz_drew, fz_wr, sz_mkS, mm_mkS, fz_mkS, Fr.mkS, mm_wr_same, mm_wr_ne, wr_wr, bs_oneT, splice_full, gt_zero, gt_succ, gt_set, gt_bs, byte_eq0, byte_eq1, byte_n0, byte_n1, Fr.refl, Fr.nw, Fr.wr, Fr.drew, ne_lt hb, h1, hd, hok, hx, hxl, hsp, hf0, htz]
      · have hok : okE D x = 0 := by unfold okE; rw [hd]; simp; omega
        obtain ⟨n, rfl⟩ : ∃ n : Nat, x = n := ⟨x.toNat, by omega⟩
        have hn : n < D.firm.length := by omega
        have hS : (readD D n).length = 64 := readD_len hw (by omega) (by omega)
        have hcell : List.take 64 (List.drop (n * 64) (flat bs (nowD D))) = bs (readD D n) := flat_take_drop (bs_len (nowD_secs hw)) (nowD_get hn)
        have hfl := flat_length (bs_len (nowD_secs hw))
        rw [nowD_length] at hfl
        have h64 : n * 64 + 64 ≤ D.firm.length * 64 := by
          have := Nat.mul_le_mul_right 64 (show n + 1 ≤ D.firm.length by omega)
          omega
        have hni : (n : Int) < D.firm.length := by omega
        have hxd : decide ((n : Int) < 0) = false := by simp
        have hxf : ¬ D.firm.length ≤ n := by omega
        have hxe : decide ((D.firm.length : Int) ≤ (n : Int)) = false := by simp; omega
        try simp (maxDischargeDepth := 8) [↓bindV_some, ↓bindU_some, ↓condE_true, ↓condE_false, ↓pickE_true, ↓pickE_false, ↓pickE_or, ↓pickE_and, ↓grdE_true, ↓grdE_false, ↓grdE_tf, ↓grdE_ft, ↓grdE_undef, ↓nilE_pt, ↓thenK_normal, ↓thenK_exit, ↓thenK_ret, ↓thenK_goto, ↓thenK_panic, ↓blockK_exit, ↓blockK_normal, ↓blockK_ret, ↓blockK_goto, ↓blockK_panic, ↓loopK_normal, ↓loopK_exit, ↓loopK_ret, ↓loopK_goto, ↓loopK_panic, ↓topK_ret, ↓topK_normal, ↓topK_panic, ↓resVs_nil, ↓resVs_tmp, ↓resVs_cell, tup_one, tup_nil, tup_two, put_get, argE_get, ↓takeE_def, ↓heldE_nil, ↓heldE_cons, qNil_pt, qPick_bool, qGrd_bool, qGrd_undef, ↓letK_def, pBox_eq, pBin_add, pBin_sub, pBin_mul, pBin_eql, pBin_neq, pBin_lss, pBin_leq, pBin_gtr, pBin_geq, pUn_not, pUn_neg, eqB, neB, eqS, neS, pExtract0, pExtract1, pExtract2, max_int, min_int, sz_nw, sz_wr, sz_drew, mm_nw, fz_nw, mm_drew, fz_drew, fz_wr, sz_mkS, mm_mkS, fz_mkS, Fr.mkS, mm_wr_same, mm_wr_ne, wr_wr, bs_oneT, splice_full, gt_zero, gt_succ, gt_set, gt_bs, byte_eq0, byte_eq1, byte_n0, byte_n1, Fr.refl, Fr.nw, Fr.wr, Fr.drew, ne_lt hb, ne_lt hnb, h1, h5, hd, hok, hn, hni, hxd, hxe, hxf, hsp, hcell, hfl, h64, hS, hf0, List.take_of_length_le]

theorem rbreak_spec {w : World} {b : Nat} {D : DD} {F : List Nat} {n : Int} (h : IsR w b D F) (hn : n < 9223372036854775808) :
    Ret P 69 #[pt b 0, i64 n] w fun v w' => IsR w' b (breakD D n) F ∧ Fr F w w' := by
  refine F69ok ?_
  unfold F69
  obtain ⟨hw, fb, nb, av, wv, h1, h2, h3, h4, h5, h6, h7, h8, n1, n2, n3, n4, n5, m1, m2, m3, m4, m5, m6⟩ := h
  have hwf : WfD (breakD D n) := ⟨hw.secs, hw.len, hw.pend, hw.many, by unfold breakD; dsimp only; omega, by unfold breakD; dsimp only; omega, hw.wr0, hw.wr1⟩
  have fin : ∀ t, t = [sl fb 0 D.firm.length D.firm.length, sl nb 0 D.firm.length D.firm.length, av, wv, i64 (max n 0), .bool D.down, i64 D.writes] → IsR (wr w b t) b (breakD D n) F ∧ Fr F w (wr w b t) := by
    intro t ht
    have hf : Fr [b] w (wr w b t) := (Fr.refl [b] w).wr (.inl (by simp)) _
    refine ⟨⟨hwf, fb, nb, av, wv, by rw [mm_wr_same h2, ht]; rfl, by rw [fz_wr]; exact h2, by rw [mm_wr_ne (fun e => n1 e.symm)]; exact h3, by rw [fz_wr]; exact h4, by rw [mm_wr_ne (fun e => n2 e.symm)]; exact h5, by rw [fz_wr]; exact h6,
      own_fr h7 hf (fun k hk => by simp; exact (n4 k hk).1), own_fr h8 hf (fun k hk => by simp; exact (n5 k hk).1), n1, n2, n3, n4, n5, m1, m2, m3, m4, m5, fun k hk => by rw [sz_wr]; exact m6 k hk⟩, (Fr.refl F w).wr (.inl m1) _⟩
  by_cases hn0 : n < 0
  · try simp (maxDischargeDepth := 8) [↓bindV_some, ↓bindU_some, ↓condE_true, ↓condE_false, ↓pickE_true, ↓pickE_false, ↓pickE_or, ↓pickE_and, ↓grdE_true, ↓grdE_false, ↓grdE_tf, ↓grdE_ft, ↓grdE_undef, ↓nilE_pt, ↓thenK_normal, ↓thenK_exit, ↓thenK_ret, ↓thenK_goto, ↓thenK_panic, ↓blockK_exit, ↓blockK_normal, ↓blockK_ret, ↓blockK_goto, ↓blockK_panic, ↓loopK_normal, ↓loopK_exit, ↓loopK_ret, ↓loopK_goto, ↓loopK_panic, ↓topK_ret, ↓topK_normal, ↓topK_panic, ↓resVs_nil, ↓resVs_tmp, ↓resVs_cell, tup_one, tup_nil, tup_two, put_get, argE_get, ↓takeE_def, ↓heldE_nil, ↓heldE_cons, qNil_pt, qPick_bool, qGrd_bool, qGrd_undef, ↓letK_def, pBox_eq, pBin_add, pBin_sub, pBin_mul, pBin_eql, pBin_neq, pBin_lss, pBin_leq, pBin_gtr, pBin_geq, pUn_not, pUn_neg, eqB, neB, eqS, neS, pExtract0, pExtract1, pExtract2, max_int, min_int, sz_nw, sz_wr, sz_drew, mm_nw, fz_nw, mm_drew, fz_drew, fz_wr, sz_mkS, mm_mkS, fz_mkS, Fr.mkS, mm_wr_same, mm_wr_ne, wr_wr, bs_oneT, splice_full, gt_zero, gt_succ, gt_set, gt_bs, byte_eq0, byte_eq1, byte_n0, byte_n1, Fr.refl, Fr.nw, Fr.wr, Fr.drew, h1, h2, hn0]
    exact fin _ (by simp [show max n 0 = 0 by omega])
  · try simp (maxDischargeDepth := 8) [↓bindV_some, ↓bindU_some, ↓condE_true, ↓condE_false, ↓pickE_true, ↓pickE_false, ↓pickE_or, ↓pickE_and, ↓grdE_true, ↓grdE_false, ↓grdE_tf, ↓grdE_ft, ↓grdE_undef, ↓nilE_pt, ↓thenK_normal, ↓thenK_exit, ↓thenK_ret, ↓thenK_goto, ↓thenK_panic, ↓blockK_exit, ↓blockK_normal, ↓blockK_ret, ↓blockK_goto, ↓blockK_panic, ↓loopK_normal, ↓loopK_exit, ↓loopK_ret, ↓loopK_goto, ↓loopK_panic, ↓topK_ret, ↓topK_normal, ↓topK_panic, ↓resVs_nil, ↓resVs_tmp, ↓resVs_cell, tup_one, tup_nil, tup_two, put_get, argE_get, ↓takeE_def, ↓heldE_nil, ↓heldE_cons, qNil_pt, qPick_bool, qGrd_bool, qGrd_undef, ↓letK_def, pBox_eq, pBin_add, pBin_sub, pBin_mul, pBin_eql, pBin_neq, pBin_lss, pBin_leq, pBin_gtr, pBin_geq, pUn_not, pUn_neg, eqB, neB, eqS, neS, pExtract0, pExtract1, pExtract2, max_int, min_int, sz_nw, sz_wr, sz_drew, mm_nw, fz_nw, mm_drew, fz_drew, fz_wr, sz_mkS, mm_mkS, fz_mkS, Fr.mkS, mm_wr_same, mm_wr_ne, wr_wr, bs_oneT, splice_full, gt_zero, gt_succ, gt_set, gt_bs, byte_eq0, byte_eq1, byte_n0, byte_n1, Fr.refl, Fr.nw, Fr.wr, Fr.drew, h1, h2, hn0]
    exact fin _ (by simp [show max n 0 = n by omega])

theorem fOk113 : fieldsOk P 113 = true := by kernel_rfl
theorem bd113 {w : World} {u v : Value} (hu : u.cells = #[u]) (hv : v.cells = #[v]) : pBuild P 113 [(0, u), (1, v)] w = some (.agg #[u, v, .slice none 0 0, .slice none 0 0, i64 0, .bool false, i64 0], w) := by
  rw [pBuild_struct hasZero113 fOk113 (fun p hp => ?_)]
  · simp [offF, hu, hv, splice]
  · simp only [List.mem_cons, List.not_mem_nil, or_false] at hp
    rcases hp with rfl | rfl
    · exact ⟨0, 76, field113n0, by simp [hu], by simp⟩
    · exact ⟨1, 76, field113n1, by simp [hv], by simp⟩
theorem now_new (n : Nat) : nowD (newD n) = List.replicate n (zb 64) := by
  apply List.ext_getElem?
  intro i
  by_cases hi : i < n
  · rw [nowD_get (by simpa [newD] using hi)]
    simp [view, readD, lastW, newD, hi]
  · rw [List.getElem?_eq_none (by rw [nowD_length]; simp [newD]; omega), List.getElem?_eq_none (by simp; omega)]
theorem rnew_spec {w : World} {n : Nat} (h1 : 1 ≤ n) (h2 : n ≤ 4096) :
    Ret P 37 #[i64 n] w fun v w' => ∃ b F, v = pt b 0 ∧ IsR w' b (newD n) F ∧ Fr [] w w' ∧ ∀ k ∈ F, sz w ≤ k := by
  refine F37ok ?_
  unfold F37
  have hmk : ∀ w, pMake P 76 (i64 n) (i64 n) w = some (sl (sz w) 0 n n, nw w (flat bs (List.replicate n (zb 64))) 25) := fun w => by
    rw [pMake_eq sliceE76 hasZero25 tyOk25 (by rw [zeroL25, cellsOf25]; simp) (by rw [bytesOf25]; omega) (by omega), zeroL25, flat_rep]
  have fin : ∀ fb nb W, fb = sz w ∧ nb = sz w + 1 ∨ fb = sz w + 1 ∧ nb = sz w → W = nw (nw (nw (drew w) (flat bs (List.replicate n (zb 64))) 25) (flat bs (List.replicate n (zb 64))) 25) [sl fb 0 n n, sl nb 0 n n, .slice none 0 0, .slice none 0 0, i64 0, .bool false, i64 0] 113 →
      ∃ b F, pt (sz w + 1 + 1) 0 = pt b 0 ∧ IsR W b (newD n) F ∧ Fr [] w W ∧ ∀ k ∈ F, sz w ≤ k := by
    rintro fb nb W ho rfl
    have hfm : ∀ k, k = sz w ∨ k = sz w + 1 → mm (nw (nw (nw (drew w) (flat bs (List.replicate n (zb 64))) 25) (flat bs (List.replicate n (zb 64))) 25) [sl fb 0 n n, sl nb 0 n n, .slice none 0 0, .slice none 0 0, i64 0, .bool false, i64 0] 113) k = flat bs (List.replicate n (zb 64)) := by
      rintro k (rfl | rfl) <;> simp [sz_nw, sz_wr, sz_drew, mm_nw, fz_nw, mm_drew, fz_drew, fz_wr, sz_mkS, mm_mkS, fz_mkS, Fr.mkS, mm_wr_same, mm_wr_ne, wr_wr, bs_oneT, splice_full, gt_zero, gt_succ, gt_set, gt_bs, byte_eq0, byte_eq1, byte_n0, byte_n1, Fr.refl, Fr.nw, Fr.wr, Fr.drew] <;> (intro h; omega)
    have hfz : ∀ k, k < sz w + 3 → sz w ≤ k → fz (nw (nw (nw (drew w) (flat bs (List.replicate n (zb 64))) 25) (flat bs (List.replicate n (zb 64))) 25) [sl fb 0 n n, sl nb 0 n n, .slice none 0 0, .slice none 0 0, i64 0, .bool false, i64 0] 113) k = false := by
      intro k hk hk2
      have : k = sz w ∨ k = sz w + 1 ∨ k = sz w + 2 := by omega
      rcases this with rfl | rfl | rfl <;> simp [sz_nw, sz_wr, sz_drew, mm_nw, fz_nw, mm_drew, fz_drew, fz_wr, sz_mkS, mm_mkS, fz_mkS, Fr.mkS, mm_wr_same, mm_wr_ne, wr_wr, bs_oneT, splice_full, gt_zero, gt_succ, gt_set, gt_bs, byte_eq0, byte_eq1, byte_n0, byte_n1, Fr.refl, Fr.nw, Fr.wr, Fr.drew]
    refine ⟨_, [sz w, sz w + 1, sz w + 1 + 1], rfl, ⟨wf_new h2, fb, nb, .slice none 0 0, .slice none 0 0, ?_, ?_, ?_, ?_, ?_, ?_, World.ownsRow_nil _ _ _ _, World.ownsRow_nil _ _ _ _, by omega, by omega, by omega, by simp [Value.ownBlock], by simp [Value.ownBlock], by simp, ?_, ?_, by simp [Value.ownBlock], by simp [Value.ownBlock], ?_⟩, ?_, ?_⟩
    · simp [sz_nw, sz_wr, sz_drew, mm_nw, fz_nw, mm_drew, fz_drew, fz_wr, sz_mkS, mm_mkS, fz_mkS, Fr.mkS, mm_wr_same, mm_wr_ne, wr_wr, bs_oneT, splice_full, gt_zero, gt_succ, gt_set, gt_bs, byte_eq0, byte_eq1, byte_n0, byte_n1, Fr.refl, Fr.nw, Fr.wr, Fr.drew, newD]
    · exact hfz _ (by omega) (by omega)
    · rw [hfm fb (by omega)]; rfl
    · exact hfz _ (by omega) (by omega)
    · rw [hfm nb (by omega), now_new]
    · exact hfz _ (by omega) (by omega)
    · simp; omega
    · simp; omega
    · intro k hk; simp only [List.mem_cons, List.not_mem_nil, or_false] at hk; simp [sz_nw, sz_wr, sz_drew, mm_nw, fz_nw, mm_drew, fz_drew, fz_wr, sz_mkS, mm_mkS, fz_mkS, Fr.mkS, mm_wr_same, mm_wr_ne, wr_wr, bs_oneT, splice_full, gt_zero, gt_succ, gt_set, gt_bs, byte_eq0, byte_eq1, byte_n0, byte_n1, Fr.refl, Fr.nw, Fr.wr, Fr.drew]; omega
    · exact ((((Fr.refl [] w).drew).nw _ _).nw _ _).nw _ _
    · intro k hk; simp only [List.mem_cons, List.not_mem_nil, or_false] at hk; omega
  refine drawE_of (fun e w' => ∃ b F, e 2 = pt b 0 ∧ IsR w' b (newD n) F ∧ Fr [] w w' ∧ ∀ k ∈ F, sz w ≤ k) ?_ ?_
  · intro k kp hk
    try simp (maxDischargeDepth := 8) [↓bindV_some, ↓bindU_some, ↓condE_true, ↓condE_false, ↓pickE_true, ↓pickE_false, ↓pickE_or, ↓pickE_and, ↓grdE_true, ↓grdE_false, ↓grdE_tf, ↓grdE_ft, ↓grdE_undef, ↓nilE_pt, ↓thenK_normal, ↓thenK_exit, ↓thenK_ret, ↓thenK_goto, ↓thenK_panic, ↓blockK_exit, ↓blockK_normal, ↓blockK_ret, ↓blockK_goto, ↓blockK_panic, ↓loopK_normal, ↓loopK_exit, ↓loopK_ret, ↓loopK_goto, ↓loopK_panic, ↓topK_ret, ↓topK_normal, ↓topK_panic, ↓resVs_nil, ↓resVs_tmp, ↓resVs_cell, tup_one, tup_nil, tup_two, put_get, argE_get, ↓takeE_def, ↓heldE_nil, ↓heldE_cons, qNil_pt, qPick_bool, qGrd_bool, qGrd_undef, ↓letK_def, pBox_eq, pBin_add, pBin_sub, pBin_mul, pBin_eql, pBin_neq, pBin_lss, pBin_leq, pBin_gtr, pBin_geq, pUn_not, pUn_neg, eqB, neB, eqS, neS, pExtract0, pExtract1, pExtract2, max_int, min_int, sz_nw, sz_wr, sz_drew, mm_nw, fz_nw, mm_drew, fz_drew, fz_wr, sz_mkS, mm_mkS, fz_mkS, Fr.mkS, mm_wr_same, mm_wr_ne, wr_wr, bs_oneT, splice_full, gt_zero, gt_succ, gt_set, gt_bs, byte_eq0, byte_eq1, byte_n0, byte_n1, Fr.refl, Fr.nw, Fr.wr, Fr.drew, hmk, bd113]
    constructor
    · refine hk _ _ ?_
      exact fin _ _ _ (.inl ⟨rfl, rfl⟩) rfl
    · refine hk _ _ ?_
      exact fin _ _ _ (.inr ⟨rfl, rfl⟩) rfl
  · intro e w' h
    exact ⟨e 2, rfl, h⟩
end Go.Proofs.Yticncfkpfpkfoaa
