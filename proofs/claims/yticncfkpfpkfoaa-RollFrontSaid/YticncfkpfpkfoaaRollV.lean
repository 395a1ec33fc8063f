/- The document's Sectors (f55). -/
import Derived.Test.YticncfkpfpkfoaaRollS
set_option linter.unusedVariables false
set_option linter.unusedSimpArgs false
namespace Go.Proofs.Yticncfkpfpkfoaa
open Go

theorem bs76 {s : List UInt8} (hs : s.length = 64) {w : World} : pBuildSlice P 76 1 [(0, sec s)] w = some (sl (sz w) 0 1 1, nw w (bs s) 25) := by
  rw [bsl76 (by omega) (by simp [hs])]
  simp [splice, hs]
  rw [List.drop_eq_nil_of_le (by simp), List.append_nil]
def PartI (w1 : World) (v : Value) (B : List UInt8) (c8 : UInt8) (e0 : Env) (i lim : Nat) (m : Nat) (e : Env) (w' : World) : Prop :=
  ∃ (t : Nat) (pv : Value), m = lim - t ∧ t ≤ lim ∧ Fr [] w1 w' ∧ w'.ownsRow (sz w1) 5 1 pv (1 + t) (bs ([c8] ++ (B.drop (60 * i)).take t)) ∧
    e 0 = v ∧ e 3 = e0 3 ∧ e 4 = e0 4 ∧ e 5 = i64 i ∧ e 6 = pv ∧ e 7 = i64 ((60 * i + t : Nat) : Int)
def SecI (w : World) (v : Value) (B : List UInt8) (m : Nat) (e : Env) (w' : World) : Prop :=
  ∃ (i : Nat) (ov : Value), m = need B.length - i ∧ i ≤ need B.length ∧ Fr [] w w' ∧ w'.ownsRow (sz w) 25 64 ov i (flat bs ((sectorsM B).take i)) ∧ e 0 = v ∧ e 3 = ov ∧ e 4 = i64 (need B.length) ∧ e 5 = i64 i
theorem sectors_spec {w : World} {v : Value} {B : List UInt8} (h : RdV w v B.length (bs B)) (hB : B.length ≤ 5000) :
    Ret P 55 #[v] w fun x w' => w'.ownsRow (sz w) 25 64 x (need B.length) (flat bs (sectorsM B)) ∧ Fr [] w w' := by
  refine F55ok ?_
  unfold F55
  obtain ⟨va, vc, hv⟩ := sl_of h
  have hlv : ∀ w, pBuiltin P .len #[22] 3 [v] w = some (i64 B.length, w) := fun w => by rw [hv]; exact len22
  have b0 : ∀ w, pBuildSlice P 76 0 [] w = some (sl (sz w) 0 0 0, nw w [] 25) := fun w => by rw [bsl76 (by omega) (by simp)]; simp
  have hn84 : need B.length ≤ 84 := by unfold need; omega
  have hnb := need_bounds B.length
  try simp (maxDischargeDepth := 8) [↓bindV_some, ↓bindU_some, ↓condE_true, ↓condE_false, ↓pickE_true, ↓pickE_false, ↓pickE_or, ↓pickE_and, ↓grdE_true, ↓grdE_false, ↓grdE_tf, ↓grdE_ft, ↓grdE_undef, ↓nilE_pt, ↓thenK_normal, ↓thenK_exit, ↓thenK_ret, ↓thenK_goto, ↓thenK_panic, ↓blockK_exit, ↓blockK_normal, ↓blockK_ret, ↓blockK_goto, ↓blockK_panic, ↓loopK_normal, ↓loopK_exit, ↓loopK_ret, ↓loopK_goto, ↓loopK_panic, ↓topK_ret, ↓topK_normal, ↓topK_panic, ↓resVs_nil, ↓resVs_tmp, ↓resVs_cell, tup_one, tup_nil, tup_two, put_get, argE_get, ↓takeE_def, ↓heldE_nil, ↓heldE_cons, qNil_pt, qPick_bool, qGrd_bool, qGrd_undef, ↓letK_def, pBox_eq, pBin_add, pBin_sub, pBin_mul, pBin_eql, pBin_neq, pBin_lss, pBin_leq, pBin_gtr, pBin_geq, pUn_not, pUn_neg, eqB, neB, eqS, neS, pExtract0, pExtract1, pExtract2, max_int, min_int, sz_nw, sz_wr, sz_drew, mm_nw, fz_nw, mm_drew, fz_drew, fz_wr, sz_mkS, mm_mkS, fz_mkS, Fr.mkS, mm_wr_same, mm_wr_ne, wr_wr, bs_oneT, splice_full, gt_zero, gt_succ, gt_set, gt_bs, byte_eq0, byte_eq1, byte_n0, byte_n1, Fr.refl, Fr.nw, Fr.wr, Fr.drew, hlv, b0, -bsl76]
  have f0 : Fr [] w (nw w [] 25) := (Fr.refl [] w).nw _ _
  refine (refNeed_spec (n := B.length) (by omega)).call ?_
  rintro _ w1 ⟨rfl, f1⟩
  obtain ⟨n, hn⟩ : ∃ n, n = need B.length := ⟨_, rfl⟩
  refine loopE_of (SecI w v B) (need B.length) ⟨0, sl (sz w) 0 0 0, by omega, by omega, f0.trans0 f1, ?_, by simp [put_get, argE_get], by simp [put_get], by simp [put_get], by simp [put_get]⟩ ?_
  · have := own_nw (w := w) (base := sz w) (e := 25) (size := 64) (l := []) (n := 0) (Nat.le_refl _) rfl (by unfold maxLen; omega)
    exact own_fr this f1 (by simp)
  rintro m e w2 ⟨i, ov, hm, hi, hf, hown, e0, e3, e4, e5⟩
  subst hm
  unfold F55B0
  rw [← hn] at e4 hi hn84
  by_cases hlt : i < n
  · have hl1 : (i < n) = True := eq_true hlt
    have hl2 : ((i : Int) < n) = True := eq_true (by omega)
    have m6 : IntKind.i64.wrap ((n : Int) - 1) = ((n - 1 : Nat) : Int) := by rw [wrap64 (by omega) (by omega)]; omega
    have m7 : IntKind.i64.wrap (((n - 1 : Nat) : Int) - i) = ((n - 1 - i : Nat) : Int) := by rw [wrap64 (by omega) (by omega)]; omega
    obtain ⟨c8, hc8⟩ : ∃ c8 : UInt8, c8 = UInt8.ofNat (n - 1 - i) := ⟨_, rfl⟩
    have hcv : ∀ w, pConv P 3 5 (Value.int .i64 ((n - 1 - i : Nat) : Int)) w = some (bv c8, w) := fun w => by
      rw [cv5 (by simp), wrap8_ofNat (by omega), hc8]
    obtain ⟨g4, hg4⟩ : ∃ q : Nat, q = n - 1 := ⟨_, rfl⟩
    obtain ⟨g5, hg5⟩ : ∃ q : Nat, q = n - 1 - i := ⟨_, rfl⟩
    rw [← hg4] at m6 m7
    rw [show g4 - i = g5 by omega] at m7
    rw [← hg5] at hcv
    have m1 : IntKind.i64.wrap (60 * (i : Int)) = ((60 * i : Nat) : Int) := by rw [wrap64 (by omega) (by omega)]; omega
    have hb1 : ∀ w, pBuildSlice P 22 1 [(0, bv c8)] w = some (sl (sz w) 0 1 1, nw w (bs [c8]) 5) := fun w => by rw [bsl22 (by omega) (by simp)]; rfl
    have hown0 : (nw w2 (bs [c8]) 5).ownsRow (sz w2) 5 1 (sl (sz w2) 0 1 1) 1 (bs [c8]) := own_nw (Nat.le_refl _) rfl (by unfold maxLen; omega)
    have f2 : Fr [] w2 (nw w2 (bs [c8]) 5) := (Fr.refl [] w2).nw _ _
    obtain ⟨lim, hlim⟩ : ∃ lim, lim = min 60 (B.length - 60 * i) := ⟨_, rfl⟩
    obtain ⟨g1, hg1⟩ : ∃ q : Nat, q = 60 * i := ⟨_, rfl⟩
    rw [← hg1] at m1
    try simp (maxDischargeDepth := 8) [↓bindV_some, ↓bindU_some, ↓condE_true, ↓condE_false, ↓pickE_true, ↓pickE_false, ↓pickE_or, ↓pickE_and, ↓grdE_true, ↓grdE_false, ↓grdE_tf, ↓grdE_ft, ↓grdE_undef, ↓nilE_pt, ↓thenK_normal, ↓thenK_exit, ↓thenK_ret, ↓thenK_goto, ↓thenK_panic, ↓blockK_exit, ↓blockK_normal, ↓blockK_ret, ↓blockK_goto, ↓blockK_panic, ↓loopK_normal, ↓loopK_exit, ↓loopK_ret, ↓loopK_goto, ↓loopK_panic, ↓topK_ret, ↓topK_normal, ↓topK_panic, ↓resVs_nil, ↓resVs_tmp, ↓resVs_cell, tup_one, tup_nil, tup_two, put_get, argE_get, ↓takeE_def, ↓heldE_nil, ↓heldE_cons, qNil_pt, qPick_bool, qGrd_bool, qGrd_undef, ↓letK_def, pBox_eq, pBin_add, pBin_sub, pBin_mul, pBin_eql, pBin_neq, pBin_lss, pBin_leq, pBin_gtr, pBin_geq, pUn_not, pUn_neg, eqB, neB, eqS, neS, pExtract0, pExtract1, pExtract2, max_int, min_int, sz_nw, sz_wr, sz_drew, mm_nw, fz_nw, mm_drew, fz_drew, fz_wr, sz_mkS, mm_mkS, fz_mkS, Fr.mkS, mm_wr_same, mm_wr_ne, wr_wr, bs_oneT, splice_full, gt_zero, gt_succ, gt_set, gt_bs, byte_eq0, byte_eq1, byte_n0, byte_n1, Fr.refl, Fr.nw, Fr.wr, Fr.drew, letK_def, e0, e3, e4, e5, hl1, hl2, m1, m6, m7, hcv, hb1, -bsl22, -cv5]
    refine loopE_of (PartI w2 v B c8 e i lim) lim ⟨0, sl (sz w2) 0 1 1, by omega, by omega, f2, by simpa using hown0, by simp [put_get, e0], by simp [put_get], by simp [put_get], by simp [put_get, e5], by simp [put_get], by simp [put_get, hg1]⟩ ?_
    rintro m e' w3 ⟨t, pv, hm, ht, hf3, hown3, a0, a3, a4, a5, a6, a7⟩
    subst hm
    unfold F55B1
    have m2 : IntKind.i64.wrap (60 * (i : Int)) = ((60 * i : Nat) : Int) := by rw [wrap64 (by omega) (by omega)]; omega
    have m3 : IntKind.i64.wrap (((60 * i : Nat) : Int) + 60) = ((60 * i + 60 : Nat) : Int) := by rw [wrap64 (by omega) (by omega)]; omega
    obtain ⟨g2, hg2⟩ : ∃ q : Nat, q = 60 * i + 60 := ⟨_, rfl⟩
    obtain ⟨g3, hg3⟩ : ∃ q : Nat, q = 60 * i + t := ⟨_, rfl⟩
    rw [← hg2, ← hg1] at m3
    rw [← hg1] at m2
    rw [← hg3] at a7
    have hv3 := h.fr0 (hf.trans0 hf3)
    by_cases htl : t < lim
    · have t1 : ((g3 : Int) < g2) = True := eq_true (by omega)
      have t2 : (g3 < g2) = True := eq_true (by omega)
      have t3 : ((g3 : Int) < B.length) = True := eq_true (by omega)
      have t4 : (g3 < B.length) = True := eq_true (by omega)
      obtain ⟨ab, ao, ac, hvv, q1, q2⟩ := rd_cell hv3 (i := g3) (by omega)
      have hia : ∀ w', pIndexAddr P 22 v (i64 g3) w' = some (pt ab (ao + g3), w') := fun w' => by
        rw [hvv]
        have := ia22 (w := w') (b := ab) (o := ao) (n := B.length) (c := ac) (k := .i64) (j := (g3 : Int)) (by omega) (by omega)
        rw [this]; simp
      have hl5 : pLoad P 5 (pt ab (ao + g3)) w3 = some (bv (gb B g3), w3) := by rw [ld5 q1, q2]
      obtain ⟨y, hy⟩ : ∃ y, y = gb B g3 := ⟨_, rfl⟩
      rw [← hy] at hl5
      have hb2 : ∀ w, pBuildSlice P 22 1 [(0, bv y)] w = some (sl (sz w) 0 1 1, nw w (bs [y]) 5) := fun w => by rw [bsl22 (by omega) (by simp)]; rfl
      have f4 : Fr [] w3 (nw w3 (bs [y]) 5) := (Fr.refl [] w3).nw _ _
      have hrd : RdV (nw w3 (bs [y]) 5) (sl (sz w3) 0 1 1) 1 (bs [y]) := rd_new w3 (bs [y]) 5 (n := 1) (by unfold maxLen; omega)
      obtain ⟨pv', w4, hrun, hown4, hgr, _⟩ := append_own2 (P := P) (t := 22) (ty := 22) (sz w2) sliceE22 hasZero5 cellsOf5 (by rw [zeroL5]; rfl) (by omega) (own_fr hown3 f4 (by simp)) (by have := (hf3.trans0 f4).size; omega) hrd (by simp) bs_one
        (by unfold maxLen; omega) (by rw [bytesOf5]; omega)
      have f5 : Fr [] w2 w4 := (hf3.trans0 f4).trans (Fr.of_grown hgr) (fun k hk => .inr (own_lt hown3 k (by simpa using hk)).1)
      have hw1 : IntKind.i64.wrap ((g3 : Int) + 1) = ((g3 + 1 : Nat) : Int) := wrap64 (by omega) (by omega)
      try simp (maxDischargeDepth := 8) [↓bindV_some, ↓bindU_some, ↓condE_true, ↓condE_false, ↓pickE_true, ↓pickE_false, ↓pickE_or, ↓pickE_and, ↓grdE_true, ↓grdE_false, ↓grdE_tf, ↓grdE_ft, ↓grdE_undef, ↓nilE_pt, ↓thenK_normal, ↓thenK_exit, ↓thenK_ret, ↓thenK_goto, ↓thenK_panic, ↓blockK_exit, ↓blockK_normal, ↓blockK_ret, ↓blockK_goto, ↓blockK_panic, ↓loopK_normal, ↓loopK_exit, ↓loopK_ret, ↓loopK_goto, ↓loopK_panic, ↓topK_ret, ↓topK_normal, ↓topK_panic, ↓resVs_nil, ↓resVs_tmp, ↓resVs_cell, tup_one, tup_nil, tup_two, put_get, argE_get, ↓takeE_def, ↓heldE_nil, ↓heldE_cons, qNil_pt, qPick_bool, qGrd_bool, qGrd_undef, ↓letK_def, pBox_eq, pBin_add, pBin_sub, pBin_mul, pBin_eql, pBin_neq, pBin_lss, pBin_leq, pBin_gtr, pBin_geq, pUn_not, pUn_neg, eqB, neB, eqS, neS, pExtract0, pExtract1, pExtract2, max_int, min_int, sz_nw, sz_wr, sz_drew, mm_nw, fz_nw, mm_drew, fz_drew, fz_wr, sz_mkS, mm_mkS, fz_mkS, Fr.mkS, mm_wr_same, mm_wr_ne, wr_wr, bs_oneT, splice_full, gt_zero, gt_succ, gt_set, gt_bs, byte_eq0, byte_eq1, byte_n0, byte_n1, Fr.refl, Fr.nw, Fr.wr, Fr.drew, a0, a3, a4, a5, a6, a7, hlv, m2, m3, t1, t2, t3, t4, hia, hl5, hb2, hrun, hw1, -bsl22, -ld5, -Int.natCast_add]
      refine ⟨lim - (t + 1), by omega, t + 1, pv', rfl, by omega, f5, ?_, by simp [put_get, a0], by simp [put_get, a3], by simp [put_get, a4], by simp [put_get, a5], by simp [put_get], by simp [put_get, hg3, Nat.add_assoc]⟩
      have hget : (B.drop (60 * i)).take (t + 1) = (B.drop (60 * i)).take t ++ [y] := by
        rw [List.take_add_one, List.getElem?_drop, ← hg3, hy, List.getElem?_eq_getElem (by omega)]
        simp [gb, show g3 < B.length by omega]
      rw [hget, ← List.append_assoc, bs_append, ← Nat.add_assoc]
      exact hown4
    · have hte : t = lim := by omega
      have hpart : [c8] ++ (B.drop (60 * i)).take t = partS B n i := by
        have : (B.drop (60 * i)).take t = (B.drop (60 * i)).take 60 := by
          rw [hte, hlim]
          by_cases h60 : 60 ≤ B.length - 60 * i
          · rw [Nat.min_eq_left h60]
          · rw [Nat.min_eq_right (by omega), List.take_of_length_le (by simp), List.take_of_length_le (by simp; omega)]
        rw [this, hc8]; rfl
      have hpl : (partS B n i).length = 1 + t := by rw [← hpart]; simp; omega
      rw [hpart, ← hpl] at hown3
      have hp61 := partS_len B n i
      have hs64 := sealOf_length hp61
      by_cases h60 : g3 < g2
      · have t1 : ((g3 : Int) < g2) = True := eq_true (by omega)
        have t2 : (g3 < g2) = True := eq_true h60
        have t3 : ((g3 : Int) < B.length) = False := eq_false (by omega)
        have t4 : (g3 < B.length) = False := eq_false (by omega)
        try simp (maxDischargeDepth := 8) [↓bindV_some, ↓bindU_some, ↓condE_true, ↓condE_false, ↓pickE_true, ↓pickE_false, ↓pickE_or, ↓pickE_and, ↓grdE_true, ↓grdE_false, ↓grdE_tf, ↓grdE_ft, ↓grdE_undef, ↓nilE_pt, ↓thenK_normal, ↓thenK_exit, ↓thenK_ret, ↓thenK_goto, ↓thenK_panic, ↓blockK_exit, ↓blockK_normal, ↓blockK_ret, ↓blockK_goto, ↓blockK_panic, ↓loopK_normal, ↓loopK_exit, ↓loopK_ret, ↓loopK_goto, ↓loopK_panic, ↓topK_ret, ↓topK_normal, ↓topK_panic, ↓resVs_nil, ↓resVs_tmp, ↓resVs_cell, tup_one, tup_nil, tup_two, put_get, argE_get, ↓takeE_def, ↓heldE_nil, ↓heldE_cons, qNil_pt, qPick_bool, qGrd_bool, qGrd_undef, ↓letK_def, pBox_eq, pBin_add, pBin_sub, pBin_mul, pBin_eql, pBin_neq, pBin_lss, pBin_leq, pBin_gtr, pBin_geq, pUn_not, pUn_neg, eqB, neB, eqS, neS, pExtract0, pExtract1, pExtract2, max_int, min_int, sz_nw, sz_wr, sz_drew, mm_nw, fz_nw, mm_drew, fz_drew, fz_wr, sz_mkS, mm_mkS, fz_mkS, Fr.mkS, mm_wr_same, mm_wr_ne, wr_wr, bs_oneT, splice_full, gt_zero, gt_succ, gt_set, gt_bs, byte_eq0, byte_eq1, byte_n0, byte_n1, Fr.refl, Fr.nw, Fr.wr, Fr.drew, a0, a3, a4, a5, a6, a7, hlv, m2, m3, t1, t2, t3, t4]
        have hseal := refSeal_spec (own_rd hown3) hp61
        refine hseal.call ?_
        rintro _ w5 ⟨rfl, f5⟩
        obtain ⟨s, hs⟩ : ∃ s, s = sealOf (partS B n i) := ⟨_, rfl⟩
        rw [← hs] at hs64 ⊢
        have hb3 : ∀ w, pBuildSlice P 76 1 [(0, sec s)] w = some (sl (sz w) 0 1 1, nw w (bs s) 25) := fun w => bs76 hs64
        have g5 : Fr [] w w5 := (hf.trans0 hf3).trans0 f5
        have f6 : Fr [] w5 (nw w5 (bs s) 25) := (Fr.refl [] w5).nw _ _
        have hrd6 : RdV (nw w5 (bs s) 25) (sl (sz w5) 0 1 1) 1 (bs s) := rd_new w5 (bs s) 25 (n := 1) (by unfold maxLen; omega)
        obtain ⟨ov', w6, hrun6, hown6, hgr6, _⟩ := append_own2 (P := P) (t := 76) (ty := 76) (sz w) sliceE76 hasZero25 cellsOf25 (by rw [zeroL25]; simp) (by omega) (own_fr hown ((hf3.trans0 f5).trans0 f6) (by simp)) (by have := (g5.trans0 f6).size; omega) hrd6 (by rw [bs_length, hs64]) bs_one
          (by unfold maxLen; omega) (by rw [bytesOf25]; omega)
        have hw5 : IntKind.i64.wrap ((i : Int) + 1) = ((i + 1 : Nat) : Int) := wrap64 (by omega) (by omega)
        try simp (maxDischargeDepth := 8) [↓bindV_some, ↓bindU_some, ↓condE_true, ↓condE_false, ↓pickE_true, ↓pickE_false, ↓pickE_or, ↓pickE_and, ↓grdE_true, ↓grdE_false, ↓grdE_tf, ↓grdE_ft, ↓grdE_undef, ↓nilE_pt, ↓thenK_normal, ↓thenK_exit, ↓thenK_ret, ↓thenK_goto, ↓thenK_panic, ↓blockK_exit, ↓blockK_normal, ↓blockK_ret, ↓blockK_goto, ↓blockK_panic, ↓loopK_normal, ↓loopK_exit, ↓loopK_ret, ↓loopK_goto, ↓loopK_panic, ↓topK_ret, ↓topK_normal, ↓topK_panic, ↓resVs_nil, ↓resVs_tmp, ↓resVs_cell, tup_one, tup_nil, tup_two, put_get, argE_get, ↓takeE_def, ↓heldE_nil, ↓heldE_cons, qNil_pt, qPick_bool, qGrd_bool, qGrd_undef, ↓letK_def, pBox_eq, pBin_add, pBin_sub, pBin_mul, pBin_eql, pBin_neq, pBin_lss, pBin_leq, pBin_gtr, pBin_geq, pUn_not, pUn_neg, eqB, neB, eqS, neS, pExtract0, pExtract1, pExtract2, max_int, min_int, sz_nw, sz_wr, sz_drew, mm_nw, fz_nw, mm_drew, fz_drew, fz_wr, sz_mkS, mm_mkS, fz_mkS, Fr.mkS, mm_wr_same, mm_wr_ne, wr_wr, bs_oneT, splice_full, gt_zero, gt_succ, gt_set, gt_bs, byte_eq0, byte_eq1, byte_n0, byte_n1, Fr.refl, Fr.nw, Fr.wr, Fr.drew, a0, a3, a4, a5, e3, e4, hb3, hrun6, hw5, -bsl76, -Int.natCast_add]
        refine ⟨need B.length - (i + 1), by omega, i + 1, ov', rfl, by omega, ((g5.trans0 f6).trans (Fr.of_grown hgr6) (fun k hk => .inr (own_lt hown k (by simpa using hk)).1)), ?_, by simp [put_get, a0], by simp [put_get], by simp [put_get, a4, e4, hn], by simp [put_get]⟩
        have hget : (sectorsM B).take (i + 1) = (sectorsM B).take i ++ [s] := by
          rw [List.take_add_one]
          unfold sectorsM
          rw [List.getElem?_map, List.getElem?_range (by omega), hs, hn]
          rfl
        rw [hget, flat_append, flat_one]
        exact hown6
      · have t1 : ((g3 : Int) < g2) = False := eq_false (by omega)
        have t2 : (g3 < g2) = False := eq_false h60
        try simp (maxDischargeDepth := 8) [↓bindV_some, ↓bindU_some, ↓condE_true, ↓condE_false, ↓pickE_true, ↓pickE_false, ↓pickE_or, ↓pickE_and, ↓grdE_true, ↓grdE_false, ↓grdE_tf, ↓grdE_ft, ↓grdE_undef, ↓nilE_pt, ↓thenK_normal, ↓thenK_exit, ↓thenK_ret, ↓thenK_goto, ↓thenK_panic, ↓blockK_exit, ↓blockK_normal, ↓blockK_ret, ↓blockK_goto, ↓blockK_panic, ↓loopK_normal, ↓loopK_exit, ↓loopK_ret, ↓loopK_goto, ↓loopK_panic, ↓topK_ret, ↓topK_normal, ↓topK_panic, ↓resVs_nil, ↓resVs_tmp, ↓resVs_cell, tup_one, tup_nil, tup_two, put_get, argE_get, ↓takeE_def, ↓heldE_nil, ↓heldE_cons, qNil_pt, qPick_bool, qGrd_bool, qGrd_undef, ↓letK_def, pBox_eq, pBin_add, pBin_sub, pBin_mul, pBin_eql, pBin_neq, pBin_lss, pBin_leq, pBin_gtr, pBin_geq, pUn_not, pUn_neg, eqB, neB, eqS, neS, pExtract0, pExtract1, pExtract2, max_int, min_int, sz_nw, sz_wr, sz_drew, mm_nw, fz_nw, mm_drew, fz_drew, fz_wr, sz_mkS, mm_mkS, fz_mkS, Fr.mkS, mm_wr_same, mm_wr_ne, wr_wr, bs_oneT, splice_full, gt_zero, gt_succ, gt_set, gt_bs, byte_eq0, byte_eq1, byte_n0, byte_n1, Fr.refl, Fr.nw, Fr.wr, Fr.drew, a0, a3, a4, a5, a6, a7, hlv, m2, m3, t1, t2]
        have hseal := refSeal_spec (own_rd hown3) hp61
        refine hseal.call ?_
        rintro _ w5 ⟨rfl, f5⟩
        obtain ⟨s, hs⟩ : ∃ s, s = sealOf (partS B n i) := ⟨_, rfl⟩
        rw [← hs] at hs64 ⊢
        have hb3 : ∀ w, pBuildSlice P 76 1 [(0, sec s)] w = some (sl (sz w) 0 1 1, nw w (bs s) 25) := fun w => bs76 hs64
        have g5 : Fr [] w w5 := (hf.trans0 hf3).trans0 f5
        have f6 : Fr [] w5 (nw w5 (bs s) 25) := (Fr.refl [] w5).nw _ _
        have hrd6 : RdV (nw w5 (bs s) 25) (sl (sz w5) 0 1 1) 1 (bs s) := rd_new w5 (bs s) 25 (n := 1) (by unfold maxLen; omega)
        obtain ⟨ov', w6, hrun6, hown6, hgr6, _⟩ := append_own2 (P := P) (t := 76) (ty := 76) (sz w) sliceE76 hasZero25 cellsOf25 (by rw [zeroL25]; simp) (by omega) (own_fr hown ((hf3.trans0 f5).trans0 f6) (by simp)) (by have := (g5.trans0 f6).size; omega) hrd6 (by rw [bs_length, hs64]) bs_one
          (by unfold maxLen; omega) (by rw [bytesOf25]; omega)
        have hw5 : IntKind.i64.wrap ((i : Int) + 1) = ((i + 1 : Nat) : Int) := wrap64 (by omega) (by omega)
        try simp (maxDischargeDepth := 8) [↓bindV_some, ↓bindU_some, ↓condE_true, ↓condE_false, ↓pickE_true, ↓pickE_false, ↓pickE_or, ↓pickE_and, ↓grdE_true, ↓grdE_false, ↓grdE_tf, ↓grdE_ft, ↓grdE_undef, ↓nilE_pt, ↓thenK_normal, ↓thenK_exit, ↓thenK_ret, ↓thenK_goto, ↓thenK_panic, ↓blockK_exit, ↓blockK_normal, ↓blockK_ret, ↓blockK_goto, ↓blockK_panic, ↓loopK_normal, ↓loopK_exit, ↓loopK_ret, ↓loopK_goto, ↓loopK_panic, ↓topK_ret, ↓topK_normal, ↓topK_panic, ↓resVs_nil, ↓resVs_tmp, ↓resVs_cell, tup_one, tup_nil, tup_two, put_get, argE_get, ↓takeE_def, ↓heldE_nil, ↓heldE_cons, qNil_pt, qPick_bool, qGrd_bool, qGrd_undef, ↓letK_def, pBox_eq, pBin_add, pBin_sub, pBin_mul, pBin_eql, pBin_neq, pBin_lss, pBin_leq, pBin_gtr, pBin_geq, pUn_not, pUn_neg, eqB, neB, eqS, neS, pExtract0, pExtract1, pExtract2, max_int, min_int, sz_nw, sz_wr, sz_drew, mm_nw, fz_nw, mm_drew, fz_drew, fz_wr, sz_mkS, mm_mkS, fz_mkS, Fr.mkS, mm_wr_same, mm_wr_ne, wr_wr, bs_oneT, splice_full, gt_zero, gt_succ, gt_set, gt_bs, byte_eq0, byte_eq1, byte_n0, byte_n1, Fr.refl, Fr.nw, Fr.wr, Fr.drew, a0, a3, a4, a5, e3, e4, hb3, hrun6, hw5, -bsl76, -Int.natCast_add]
        refine ⟨need B.length - (i + 1), by omega, i + 1, ov', rfl, by omega, ((g5.trans0 f6).trans (Fr.of_grown hgr6) (fun k hk => .inr (own_lt hown k (by simpa using hk)).1)), ?_, by simp [put_get, a0], by simp [put_get], by simp [put_get, a4, e4, hn], by simp [put_get]⟩
        have hget : (sectorsM B).take (i + 1) = (sectorsM B).take i ++ [s] := by
          rw [List.take_add_one]
          unfold sectorsM
          rw [List.getElem?_map, List.getElem?_range (by omega), hs, hn]
          rfl
        rw [hget, flat_append, flat_one]
        exact hown6
  · have hl1 : (i < n) = False := eq_false hlt
    have hl2 : ((i : Int) < n) = False := eq_false (by omega)
    have hie : i = n := by omega
    rw [List.take_of_length_le (by rw [sectorsM_len]; omega)] at hown
    rw [hie, hn] at hown
    try simp (maxDischargeDepth := 8) [↓bindV_some, ↓bindU_some, ↓condE_true, ↓condE_false, ↓pickE_true, ↓pickE_false, ↓pickE_or, ↓pickE_and, ↓grdE_true, ↓grdE_false, ↓grdE_tf, ↓grdE_ft, ↓grdE_undef, ↓nilE_pt, ↓thenK_normal, ↓thenK_exit, ↓thenK_ret, ↓thenK_goto, ↓thenK_panic, ↓blockK_exit, ↓blockK_normal, ↓blockK_ret, ↓blockK_goto, ↓blockK_panic, ↓loopK_normal, ↓loopK_exit, ↓loopK_ret, ↓loopK_goto, ↓loopK_panic, ↓topK_ret, ↓topK_normal, ↓topK_panic, ↓resVs_nil, ↓resVs_tmp, ↓resVs_cell, tup_one, tup_nil, tup_two, put_get, argE_get, ↓takeE_def, ↓heldE_nil, ↓heldE_cons, qNil_pt, qPick_bool, qGrd_bool, qGrd_undef, ↓letK_def, pBox_eq, pBin_add, pBin_sub, pBin_mul, pBin_eql, pBin_neq, pBin_lss, pBin_leq, pBin_gtr, pBin_geq, pUn_not, pUn_neg, eqB, neB, eqS, neS, pExtract0, pExtract1, pExtract2, max_int, min_int, sz_nw, sz_wr, sz_drew, mm_nw, fz_nw, mm_drew, fz_drew, fz_wr, sz_mkS, mm_mkS, fz_mkS, Fr.mkS, mm_wr_same, mm_wr_ne, wr_wr, bs_oneT, splice_full, gt_zero, gt_succ, gt_set, gt_bs, byte_eq0, byte_eq1, byte_n0, byte_n1, Fr.refl, Fr.nw, Fr.wr, Fr.drew, e3, e4, e5, hl1, hl2]
    exact ⟨hown, hf⟩
end Go.Proofs.Yticncfkpfpkfoaa
