/- PackUpto: the law. -/
import Derived.Test.YtfmcplkijjndlaaPUpto0
import Derived.Test.YtfmcplkijjndlaaPCuts
set_option linter.unusedVariables false
set_option linter.unusedSimpArgs false
namespace Go.Proofs.Ytfmcplkijjndlaa
open Go

theorem numGo_code : ∀ (l : List UInt8) (n i : Nat), (numGo n i l).2.2 = 0 ∨ (numGo n i l).2.2 = 1 ∨ (numGo n i l).2.2 = 2 ∨ (numGo n i l).2.2 = 4 := by
  intro l
  induction l with
  | nil => intro n i; simp [numGo]
  | cons x r ih =>
    intro n i
    rw [numGo]
    split
    · simp
    · split
      · split <;> simp
      · exact ih _ _
theorem numGo_zero : ∀ (l : List UInt8) (n i : Nat), (numGo n i l).2.2 ≠ 0 → (numGo n i l).1 = 0 := by
  intro l
  induction l with
  | nil => intro n i _; simp [numGo]
  | cons x r ih =>
    intro n i h
    rw [numGo] at h ⊢
    split
    · rfl
    · rename_i h1
      rw [if_neg h1] at h
      split
      · rename_i h2
        rw [if_pos h2] at h
        split
        · rfl
        · rename_i h3; rw [if_neg h3] at h; exact absurd rfl h
      · rename_i h2; rw [if_neg h2] at h; exact ih _ _ h
theorem num_take {l : List UInt8} (h : (num l).2.2 = 0) : num (l.take (num l).2.1) = ((num l).1, (num l).2.1, 0) := by
  have h1 := digits_num0 h
  have h2 := num_lt h
  rw [H63x2] at h2
  have h3 := num_digits0 [] h2
  have h4 := num_le l
  rw [List.append_nil, h1] at h3
  rw [h3, List.length_take, Nat.min_eq_left h4]
def pU (n : Nat) : PartP := { zP 117 with u := n }
def rU (n : Nat) : PartR := ⟨117, n, 0, 0, [], false⟩
theorem plain_pU (n : Nat) : plain (pU n) = rU n := by simp [plain, pU, zP, rU]
theorem read117 {B : List UInt8} {most : Int} : readM B [117] most = if (num B).2.2 ≠ 0 then ([], (num B).2.2, (num B).2.1) else if 0 < (B.drop (num B).2.1).length then ([], 3, (num B).2.1) else ([pU (num B).1], 0, 0) := by
  have hp : partM 117 most B = (pU (num B).1, (num B).2.1, (num B).2.2) := by unfold partM; rw [if_pos rfl]; rfl
  unfold readM
  rw [readGo, hp]
  simp only [Nat.zero_add]
  split
  · rfl
  · rw [readGo]
    rfl
theorem firstM_bad {B : List UInt8} {most : Int} (h : (num B).2.2 ≠ 0) : firstM most B = (0, (num B).2.1, (num B).2.2) := by
  have : uptoM most B = num B := by unfold uptoM; simp [h]
  unfold firstM
  simp only [this]
  rw [if_neg h]
theorem firstM_ok {B : List UInt8} {most : Int} (h : (num B).2.2 = 0) : firstM most B = if (max most 0).toNat < (num B).1 then (0, (num B).2.1, 1) else ((num B).1, 0, 0) := by
  unfold firstM uptoM
  simp only [h, ne_eq, not_true_eq_false, if_false]
  by_cases hc : (max most 0).toNat < (num B).1
  · simp [hc]
  · simp [hc, h]

theorem packUpto_law {w : World} {v : Value} {B : List UInt8} {most : Int} (h : RdV w v B.length (bs B)) (hm : -9223372036854775808 ≤ most ∧ most < 9223372036854775808) :
    Ret P 18 #[v, i64 most] w fun x w' => x = .bool true ∧ Fr [] w w' := by
  refine F18ok ?_
  unfold F18
  obtain ⟨va, vc, hv⟩ := sl_of h
  refine speaks02.call ?_
  rintro _ w1 ⟨rfl, f1⟩
  have hlv : ∀ w, pBuiltin P .len #[40] 3 [v] w = some (i64 B.length, w) := fun w => by rw [hv]; exact len40
  by_cases hb : 100 < B.length
  · have c1 : ((100 : Int) < B.length) = True := eq_true (by omega)
    have c1' : (100 < B.length) = True := eq_true hb
    try simp (maxDischargeDepth := 8) [↓bindV_some, ↓bindU_some, ↓condE_true, ↓condE_false, ↓pickE_true, ↓pickE_false, ↓pickE_or, ↓pickE_and, ↓grdE_true, ↓grdE_false, ↓grdE_tf, ↓grdE_ft, ↓grdE_undef, ↓nilE_pt, ↓thenK_normal, ↓thenK_exit, ↓thenK_ret, ↓thenK_goto, ↓thenK_panic, ↓blockK_exit, ↓blockK_normal, ↓blockK_ret, ↓blockK_goto, ↓blockK_panic, ↓loopK_normal, ↓loopK_exit, ↓loopK_ret, ↓loopK_goto, ↓loopK_panic, ↓topK_ret, ↓topK_normal, ↓topK_panic, ↓resVs_nil, ↓resVs_tmp, ↓resVs_cell, tup_one, tup_nil, tup_two, put_get, argE_get, ↓takeE_def, ↓heldE_nil, ↓heldE_cons, qNil_pt, qPick_bool, qGrd_bool, qGrd_undef, ↓letK_def, pBox_eq, pBin_add, pBin_sub, pBin_mul, pBin_eql, pBin_neq, pBin_lss, pBin_leq, pBin_gtr, pBin_geq, pUn_not, pUn_neg, eqB, neB, eqS, neS, pExtract0, pExtract1, pExtract2, max_int, min_int, sz_nw, sz_wr, sz_drew, mm_nw, fz_nw, mm_drew, fz_drew, fz_wr, sz_mkS, mm_mkS, fz_mkS, Fr.mkS, mm_wr_same, mm_wr_ne, wr_wr, bs_oneT, splice_full, gt_zero, gt_succ, gt_set, gt_bs, byte_eq0, byte_eq1, byte_n0, byte_n1, Fr.refl, Fr.nw, Fr.wr, Fr.drew, hlv, c1, c1']
    exact f1
  have c1 : ((100 : Int) < B.length) = False := eq_false (by omega)
  have c1' : (100 < B.length) = False := eq_false hb
  try simp (maxDischargeDepth := 8) [↓bindV_some, ↓bindU_some, ↓condE_true, ↓condE_false, ↓pickE_true, ↓pickE_false, ↓pickE_or, ↓pickE_and, ↓grdE_true, ↓grdE_false, ↓grdE_tf, ↓grdE_ft, ↓grdE_undef, ↓nilE_pt, ↓thenK_normal, ↓thenK_exit, ↓thenK_ret, ↓thenK_goto, ↓thenK_panic, ↓blockK_exit, ↓blockK_normal, ↓blockK_ret, ↓blockK_goto, ↓blockK_panic, ↓loopK_normal, ↓loopK_exit, ↓loopK_ret, ↓loopK_goto, ↓loopK_panic, ↓topK_ret, ↓topK_normal, ↓topK_panic, ↓resVs_nil, ↓resVs_tmp, ↓resVs_cell, tup_one, tup_nil, tup_two, put_get, argE_get, ↓takeE_def, ↓heldE_nil, ↓heldE_cons, qNil_pt, qPick_bool, qGrd_bool, qGrd_undef, ↓letK_def, pBox_eq, pBin_add, pBin_sub, pBin_mul, pBin_eql, pBin_neq, pBin_lss, pBin_leq, pBin_gtr, pBin_geq, pUn_not, pUn_neg, eqB, neB, eqS, neS, pExtract0, pExtract1, pExtract2, max_int, min_int, sz_nw, sz_wr, sz_drew, mm_nw, fz_nw, mm_drew, fz_drew, fz_wr, sz_mkS, mm_mkS, fz_mkS, Fr.mkS, mm_wr_same, mm_wr_ne, wr_wr, bs_oneT, splice_full, gt_zero, gt_succ, gt_set, gt_bs, byte_eq0, byte_eq1, byte_n0, byte_n1, Fr.refl, Fr.nw, Fr.wr, Fr.drew, hlv, c1, c1']
  refine (first_spec (h.fr0 f1) hm.2).call ?_
  rintro _ w2 ⟨rfl, f2⟩
  have g2 := f1.trans0 f2
  have hbad := firstM_bad (B := B) (most := most)
  have hgood := firstM_ok (B := B) (most := most)
  generalize firstM most B = fm at *
  obtain ⟨fn, fk, fc⟩ := fm
  have hsp2 : ∀ (a b : Int) (l : List Value), l.length = 2 → splice l 0 [i64 a, i64 b] = [i64 a, i64 b] := fun a b l hl => splice_full (by rw [hl]; rfl)
  obtain ⟨W, hW⟩ : ∃ W, W = wr (nw w2 [i64 0, i64 0] 44) (sz w2) [i64 fc, i64 fk] := ⟨_, rfl⟩
  have fW : Fr [] w2 W := by rw [hW]; exact ((Fr.refl [] w2).nw _ _).wr (.inr (Nat.le_refl _)) _
  have hWm : mm W (sz w2) = [i64 fc, i64 fk] := by rw [hW]; simp [sz_nw, sz_wr, sz_drew, mm_nw, fz_nw, mm_drew, fz_drew, fz_wr, sz_mkS, mm_mkS, fz_mkS, Fr.mkS, mm_wr_same, mm_wr_ne, wr_wr, bs_oneT, splice_full, gt_zero, gt_succ, gt_set, gt_bs, byte_eq0, byte_eq1, byte_n0, byte_n1, Fr.refl, Fr.nw, Fr.wr, Fr.drew]
  have hWs : sz w2 < sz W := by rw [hW]; simp [sz_nw, sz_wr, sz_drew, mm_nw, fz_nw, mm_drew, fz_drew, fz_wr, sz_mkS, mm_mkS, fz_mkS, Fr.mkS, mm_wr_same, mm_wr_ne, wr_wr, bs_oneT, splice_full, gt_zero, gt_succ, gt_set, gt_bs, byte_eq0, byte_eq1, byte_n0, byte_n1, Fr.refl, Fr.nw, Fr.wr, Fr.drew]
  have gW := g2.trans0 fW
  try simp (maxDischargeDepth := 8) [↓bindV_some, ↓bindU_some, ↓condE_true, ↓condE_false, ↓pickE_true, ↓pickE_false, ↓pickE_or, ↓pickE_and, ↓grdE_true, ↓grdE_false, ↓grdE_tf, ↓grdE_ft, ↓grdE_undef, ↓nilE_pt, ↓thenK_normal, ↓thenK_exit, ↓thenK_ret, ↓thenK_goto, ↓thenK_panic, ↓blockK_exit, ↓blockK_normal, ↓blockK_ret, ↓blockK_goto, ↓blockK_panic, ↓loopK_normal, ↓loopK_exit, ↓loopK_ret, ↓loopK_goto, ↓loopK_panic, ↓topK_ret, ↓topK_normal, ↓topK_panic, ↓resVs_nil, ↓resVs_tmp, ↓resVs_cell, tup_one, tup_nil, tup_two, put_get, argE_get, ↓takeE_def, ↓heldE_nil, ↓heldE_cons, qNil_pt, qPick_bool, qGrd_bool, qGrd_undef, ↓letK_def, pBox_eq, pBin_add, pBin_sub, pBin_mul, pBin_eql, pBin_neq, pBin_lss, pBin_leq, pBin_gtr, pBin_geq, pUn_not, pUn_neg, eqB, neB, eqS, neS, pExtract0, pExtract1, pExtract2, max_int, min_int, sz_nw, sz_wr, sz_drew, mm_nw, fz_nw, mm_drew, fz_drew, fz_wr, sz_mkS, mm_mkS, fz_mkS, Fr.mkS, mm_wr_same, mm_wr_ne, wr_wr, bs_oneT, splice_full, gt_zero, gt_succ, gt_set, gt_bs, byte_eq0, byte_eq1, byte_n0, byte_n1, Fr.refl, Fr.nw, Fr.wr, Fr.drew, hsp2, ← hW]
  have h0m : (0 : Int) < 9223372036854775808 := by omega
  have h0m' : -9223372036854775808 ≤ (0 : Int) := by omega
  have hk6 : ([117] : List UInt8).length ≤ 1000000 := by simp
  have hs := fread_spec (w := W) (v := v) (B := B) (K := [117]) (most := 0) (h.fr0 gW) h0m h0m' hk6
  rw [read117] at hs
  obtain ⟨q, hq⟩ : ∃ q : Nat, max most 0 = (q : Int) := ⟨(max most 0).toNat, by omega⟩
  have hqt : (max most 0).toNat = q := by omega
  have hwq : IntKind.u64.wrap (q : Int) = (q : Int) := wrapu (by unfold H63; omega)
  have b44 : ∀ w, pBuild P 44 [] w = some (.agg #[i64 0, i64 0], w) := fun w => by rw [bf44 (by simp)]; rfl
  have hfe : ∀ (a b c d : Int) w, pBin P .eql 44 false (.agg #[i64 a, i64 b]) (.agg #[i64 c, i64 d]) w = some (.bool (decide (a = c) && decide (b = d)), w) := fun a b c d w => eqFault
  have hcode : (num B).2.2 = 0 ∨ (num B).2.2 = 1 ∨ (num B).2.2 = 2 ∨ (num B).2.2 = 4 := numGo_code B 0 0
  have hle := num_le B
  have htake := num_take (l := B)
  have hnlt := num_lt (l := B)
  rw [hqt] at hgood
  generalize num B = r at *
  obtain ⟨n, z, c⟩ := r
  simp only at hs hbad hgood hcode hle htake hnlt
  by_cases hc : c = 0
  · subst hc
    have hgood := hgood rfl
    have hnlt := hnlt rfl
    have htake := htake rfl
    simp only [ne_eq, not_true_eq_false, if_false] at hs
    have hpr : fc = (if q < n then 1 else 0) ∧ fk = (if q < n then z else 0) ∧ fn = (if q < n then 0 else n) := by
      by_cases hl : q < n
      · rw [if_pos hl] at hgood; simp only [Prod.mk.injEq] at hgood; simp [hl, hgood]
      · rw [if_neg hl] at hgood; simp only [Prod.mk.injEq] at hgood; simp [hl, hgood]
    obtain ⟨rfl, rfl, rfl⟩ := hpr
    by_cases hz : 0 < (B.drop z).length
    · rw [if_pos hz] at hs
      have hs : Ret P 46 #[v, .string { data := #[117] }, .int .i64 0] W fun x w' => FreadR W ([], 3, z) x w' := hs
      refine hs.call ?_
      rintro _ w3 ⟨ov, rfl, _, f3⟩
      simp only
      obtain ⟨S, hS, hSr⟩ := sl_hi (h.fr0 (gW.trans0 f3)) (k := z) hle
      try simp (maxDischargeDepth := 8) [↓bindV_some, ↓bindU_some, ↓condE_true, ↓condE_false, ↓pickE_true, ↓pickE_false, ↓pickE_or, ↓pickE_and, ↓grdE_true, ↓grdE_false, ↓grdE_tf, ↓grdE_ft, ↓grdE_undef, ↓nilE_pt, ↓thenK_normal, ↓thenK_exit, ↓thenK_ret, ↓thenK_goto, ↓thenK_panic, ↓blockK_exit, ↓blockK_normal, ↓blockK_ret, ↓blockK_goto, ↓blockK_panic, ↓loopK_normal, ↓loopK_exit, ↓loopK_ret, ↓loopK_goto, ↓loopK_panic, ↓topK_ret, ↓topK_normal, ↓topK_panic, ↓resVs_nil, ↓resVs_tmp, ↓resVs_cell, tup_one, tup_nil, tup_two, put_get, argE_get, ↓takeE_def, ↓heldE_nil, ↓heldE_cons, qNil_pt, qPick_bool, qGrd_bool, qGrd_undef, ↓letK_def, pBox_eq, pBin_add, pBin_sub, pBin_mul, pBin_eql, pBin_neq, pBin_lss, pBin_leq, pBin_gtr, pBin_geq, pUn_not, pUn_neg, eqB, neB, eqS, neS, pExtract0, pExtract1, pExtract2, max_int, min_int, sz_nw, sz_wr, sz_drew, mm_nw, fz_nw, mm_drew, fz_drew, fz_wr, sz_mkS, mm_mkS, fz_mkS, Fr.mkS, mm_wr_same, mm_wr_ne, wr_wr, bs_oneT, splice_full, gt_zero, gt_succ, gt_set, gt_bs, byte_eq0, byte_eq1, byte_n0, byte_n1, Fr.refl, Fr.nw, Fr.wr, Fr.drew, hlv, hS]
      have hs2 := fread_spec (w := w3) (v := S) (B := B.take z) (K := [117]) (most := 0) hSr h0m h0m' hk6
      rw [read117, htake] at hs2
      have hdz : ¬ 0 < ((B.take z).drop z).length := by simp
      simp only [ne_eq, not_true_eq_false, if_false, if_neg hdz] at hs2
      have hs2 : Ret P 46 #[S, .string { data := #[117] }, .int .i64 0] w3 fun x w' => FreadR w3 ([pU n], 0, 0) x w' := hs2
      refine hs2.call ?_
      rintro _ w4 ⟨ov2, rfl, hov, f4⟩
      simp only [List.map_cons, List.map_nil, plain_pU, List.length_singleton] at hov ⊢
      have fX := f3.trans0 f4
      have hXs : sz w2 < sz w4 := fX.lt hWs
      have hovr : RdV w4 ov2 1 (flat refC [rU n]) := own_rd hov
      obtain ⟨b1, o1, c1, e1, _⟩ := flat_at (L := [rU n]) hovr (refC_len _) (by omega) (j := 0) (x := rU n) rfl
      have e1' : ov2 = sl b1 o1 1 c1 := e1
      subst e1'
      obtain ⟨_, i1, t1⟩ := flat_at2 (L := [rU n]) hovr (refC_len _) (by omega) (j := 0) (x := rU n) rfl
      have u1 : gt (mm w4 b1) (o1 + 1) = u64 n := cell_of t1 (i := 1) (by omega)
      obtain ⟨N, hN⟩ : ∃ N, N = (mm w4 b1).length := ⟨_, rfl⟩
      have l1 : o1 + 1 < N := by omega
      have ha0 : ∀ w, pIndexAddr P 48 (sl b1 o1 1 c1) (Value.int .i64 0) w = some (pt b1 o1, w) := fun w => by
        have := ia48 (w := w) (b := b1) (o := o1) (n := 1) (c := c1) (k := .i64) (j := 0) (by omega) (by omega)
        rw [this]; simp
      have r1 : pLoad P 25 (pt b1 (o1 + 1)) w4 = some (u64 n, w4) := by rw [ld25 (by rw [← hN]; exact l1), u1]
      by_cases hlong : q < n
      · have hl1 : (q < n) = True := eq_true hlong
        have hl2 : ((q : Int) < n) = True := eq_true (by omega)
        have hXm : mm w4 (sz w2) = [i64 1, i64 z] := by rw [fX.mm hWs (by simp), hWm]; simp [hl1]
        try simp (maxDischargeDepth := 8) [↓bindV_some, ↓bindU_some, ↓condE_true, ↓condE_false, ↓pickE_true, ↓pickE_false, ↓pickE_or, ↓pickE_and, ↓grdE_true, ↓grdE_false, ↓grdE_tf, ↓grdE_ft, ↓grdE_undef, ↓nilE_pt, ↓thenK_normal, ↓thenK_exit, ↓thenK_ret, ↓thenK_goto, ↓thenK_panic, ↓blockK_exit, ↓blockK_normal, ↓blockK_ret, ↓blockK_goto, ↓blockK_panic, ↓loopK_normal, ↓loopK_exit, ↓loopK_ret, ↓loopK_goto, ↓loopK_panic, ↓topK_ret, ↓topK_normal, ↓topK_panic, ↓resVs_nil, ↓resVs_tmp, ↓resVs_cell, tup_one, tup_nil, tup_two, put_get, argE_get, ↓takeE_def, ↓heldE_nil, ↓heldE_cons, qNil_pt, qPick_bool, qGrd_bool, qGrd_undef, ↓letK_def, pBox_eq, pBin_add, pBin_sub, pBin_mul, pBin_eql, pBin_neq, pBin_lss, pBin_leq, pBin_gtr, pBin_geq, pUn_not, pUn_neg, eqB, neB, eqS, neS, pExtract0, pExtract1, pExtract2, max_int, min_int, sz_nw, sz_wr, sz_drew, mm_nw, fz_nw, mm_drew, fz_drew, fz_wr, sz_mkS, mm_mkS, fz_mkS, Fr.mkS, mm_wr_same, mm_wr_ne, wr_wr, bs_oneT, splice_full, gt_zero, gt_succ, gt_set, gt_bs, byte_eq0, byte_eq1, byte_n0, byte_n1, Fr.refl, Fr.nw, Fr.wr, Fr.drew, ha0, r1, hq, hwq, hl1, hl2, hXm, hXs, hlv]
        exact gW.trans0 fX
      · have hl1 : (q < n) = False := eq_false hlong
        have hl2 : ((q : Int) < n) = False := eq_false (by omega)
        have hXm : mm w4 (sz w2) = [i64 0, i64 0] := by rw [fX.mm hWs (by simp), hWm]; simp [hl1]
        have hwn : IntKind.u64.wrap (n : Int) = (n : Int) := wrapu (by unfold H63; omega)
        try simp (maxDischargeDepth := 8) [↓bindV_some, ↓bindU_some, ↓condE_true, ↓condE_false, ↓pickE_true, ↓pickE_false, ↓pickE_or, ↓pickE_and, ↓grdE_true, ↓grdE_false, ↓grdE_tf, ↓grdE_ft, ↓grdE_undef, ↓nilE_pt, ↓thenK_normal, ↓thenK_exit, ↓thenK_ret, ↓thenK_goto, ↓thenK_panic, ↓blockK_exit, ↓blockK_normal, ↓blockK_ret, ↓blockK_goto, ↓blockK_panic, ↓loopK_normal, ↓loopK_exit, ↓loopK_ret, ↓loopK_goto, ↓loopK_panic, ↓topK_ret, ↓topK_normal, ↓topK_panic, ↓resVs_nil, ↓resVs_tmp, ↓resVs_cell, tup_one, tup_nil, tup_two, put_get, argE_get, ↓takeE_def, ↓heldE_nil, ↓heldE_cons, qNil_pt, qPick_bool, qGrd_bool, qGrd_undef, ↓letK_def, pBox_eq, pBin_add, pBin_sub, pBin_mul, pBin_eql, pBin_neq, pBin_lss, pBin_leq, pBin_gtr, pBin_geq, pUn_not, pUn_neg, eqB, neB, eqS, neS, pExtract0, pExtract1, pExtract2, max_int, min_int, sz_nw, sz_wr, sz_drew, mm_nw, fz_nw, mm_drew, fz_drew, fz_wr, sz_mkS, mm_mkS, fz_mkS, Fr.mkS, mm_wr_same, mm_wr_ne, wr_wr, bs_oneT, splice_full, gt_zero, gt_succ, gt_set, gt_bs, byte_eq0, byte_eq1, byte_n0, byte_n1, Fr.refl, Fr.nw, Fr.wr, Fr.drew, ha0, r1, hq, hwq, hl1, hl2, hXm, hXs, b44, hfe, hwn, -bf44, hlv]
        exact gW.trans0 fX
    · rw [if_neg hz] at hs
      have hzB : z = B.length := by simp at hz; omega
      have hs : Ret P 46 #[v, .string { data := #[117] }, .int .i64 0] W fun x w' => FreadR W ([pU n], 0, 0) x w' := hs
      refine hs.call ?_
      rintro _ w3 ⟨ov, rfl, hov, fX⟩
      simp only [List.map_cons, List.map_nil, plain_pU, List.length_singleton] at hov ⊢
      have hXs : sz w2 < sz w3 := fX.lt hWs
      have hovr : RdV w3 ov 1 (flat refC [rU n]) := own_rd hov
      obtain ⟨b1, o1, c1, e1, _⟩ := flat_at (L := [rU n]) hovr (refC_len _) (by omega) (j := 0) (x := rU n) rfl
      have e1' : ov = sl b1 o1 1 c1 := e1
      subst e1'
      obtain ⟨_, i1, t1⟩ := flat_at2 (L := [rU n]) hovr (refC_len _) (by omega) (j := 0) (x := rU n) rfl
      have u1 : gt (mm w3 b1) (o1 + 1) = u64 n := cell_of t1 (i := 1) (by omega)
      obtain ⟨N, hN⟩ : ∃ N, N = (mm w3 b1).length := ⟨_, rfl⟩
      have l1 : o1 + 1 < N := by omega
      have ha0 : ∀ w, pIndexAddr P 48 (sl b1 o1 1 c1) (Value.int .i64 0) w = some (pt b1 o1, w) := fun w => by
        have := ia48 (w := w) (b := b1) (o := o1) (n := 1) (c := c1) (k := .i64) (j := 0) (by omega) (by omega)
        rw [this]; simp
      have r1 : pLoad P 25 (pt b1 (o1 + 1)) w3 = some (u64 n, w3) := by rw [ld25 (by rw [← hN]; exact l1), u1]
      by_cases hlong : q < n
      · have hl1 : (q < n) = True := eq_true hlong
        have hl2 : ((q : Int) < n) = True := eq_true (by omega)
        have hXm : mm w3 (sz w2) = [i64 1, i64 z] := by rw [fX.mm hWs (by simp), hWm]; simp [hl1]
        try simp (maxDischargeDepth := 8) [↓bindV_some, ↓bindU_some, ↓condE_true, ↓condE_false, ↓pickE_true, ↓pickE_false, ↓pickE_or, ↓pickE_and, ↓grdE_true, ↓grdE_false, ↓grdE_tf, ↓grdE_ft, ↓grdE_undef, ↓nilE_pt, ↓thenK_normal, ↓thenK_exit, ↓thenK_ret, ↓thenK_goto, ↓thenK_panic, ↓blockK_exit, ↓blockK_normal, ↓blockK_ret, ↓blockK_goto, ↓blockK_panic, ↓loopK_normal, ↓loopK_exit, ↓loopK_ret, ↓loopK_goto, ↓loopK_panic, ↓topK_ret, ↓topK_normal, ↓topK_panic, ↓resVs_nil, ↓resVs_tmp, ↓resVs_cell, tup_one, tup_nil, tup_two, put_get, argE_get, ↓takeE_def, ↓heldE_nil, ↓heldE_cons, qNil_pt, qPick_bool, qGrd_bool, qGrd_undef, ↓letK_def, pBox_eq, pBin_add, pBin_sub, pBin_mul, pBin_eql, pBin_neq, pBin_lss, pBin_leq, pBin_gtr, pBin_geq, pUn_not, pUn_neg, eqB, neB, eqS, neS, pExtract0, pExtract1, pExtract2, max_int, min_int, sz_nw, sz_wr, sz_drew, mm_nw, fz_nw, mm_drew, fz_drew, fz_wr, sz_mkS, mm_mkS, fz_mkS, Fr.mkS, mm_wr_same, mm_wr_ne, wr_wr, bs_oneT, splice_full, gt_zero, gt_succ, gt_set, gt_bs, byte_eq0, byte_eq1, byte_n0, byte_n1, Fr.refl, Fr.nw, Fr.wr, Fr.drew, ha0, r1, hq, hwq, hl1, hl2, hXm, hXs, hlv, ← hzB]
        exact gW.trans0 fX
      · have hl1 : (q < n) = False := eq_false hlong
        have hl2 : ((q : Int) < n) = False := eq_false (by omega)
        have hXm : mm w3 (sz w2) = [i64 0, i64 0] := by rw [fX.mm hWs (by simp), hWm]; simp [hl1]
        have hwn : IntKind.u64.wrap (n : Int) = (n : Int) := wrapu (by unfold H63; omega)
        try simp (maxDischargeDepth := 8) [↓bindV_some, ↓bindU_some, ↓condE_true, ↓condE_false, ↓pickE_true, ↓pickE_false, ↓pickE_or, ↓pickE_and, ↓grdE_true, ↓grdE_false, ↓grdE_tf, ↓grdE_ft, ↓grdE_undef, ↓nilE_pt, ↓thenK_normal, ↓thenK_exit, ↓thenK_ret, ↓thenK_goto, ↓thenK_panic, ↓blockK_exit, ↓blockK_normal, ↓blockK_ret, ↓blockK_goto, ↓blockK_panic, ↓loopK_normal, ↓loopK_exit, ↓loopK_ret, ↓loopK_goto, ↓loopK_panic, ↓topK_ret, ↓topK_normal, ↓topK_panic, ↓resVs_nil, ↓resVs_tmp, ↓resVs_cell, tup_one, tup_nil, tup_two, put_get, argE_get, ↓takeE_def, ↓heldE_nil, ↓heldE_cons, qNil_pt, qPick_bool, qGrd_bool, qGrd_undef, ↓letK_def, pBox_eq, pBin_add, pBin_sub, pBin_mul, pBin_eql, pBin_neq, pBin_lss, pBin_leq, pBin_gtr, pBin_geq, pUn_not, pUn_neg, eqB, neB, eqS, neS, pExtract0, pExtract1, pExtract2, max_int, min_int, sz_nw, sz_wr, sz_drew, mm_nw, fz_nw, mm_drew, fz_drew, fz_wr, sz_mkS, mm_mkS, fz_mkS, Fr.mkS, mm_wr_same, mm_wr_ne, wr_wr, bs_oneT, splice_full, gt_zero, gt_succ, gt_set, gt_bs, byte_eq0, byte_eq1, byte_n0, byte_n1, Fr.refl, Fr.nw, Fr.wr, Fr.drew, ha0, r1, hq, hwq, hl1, hl2, hXm, hXs, b44, hfe, hwn, -bf44, hlv, ← hzB]
        exact gW.trans0 fX
  · have hbad := hbad hc
    simp only [Prod.mk.injEq] at hbad
    obtain ⟨rfl, rfl, rfl⟩ := hbad
    rw [if_pos hc] at hs
    have hs : Ret P 46 #[v, .string { data := #[117] }, .int .i64 0] W fun x w' => FreadR W ([], fc, fk) x w' := hs
    refine hs.call ?_
    rintro _ w3 ⟨ov, rfl, _, f3⟩
    simp only
    have k1 : ((fc : Int) = 3) = False := eq_false (by omega)
    have k2 : (fc = 3) = False := eq_false (by omega)
    have k3 : ((fc : Int) = 0) = False := eq_false (by omega)
    have k4 : (fc = 0) = False := eq_false hc
    have hXm : mm w3 (sz w2) = [i64 fc, i64 fk] := by rw [f3.mm hWs (by simp), hWm]
    have hXs : sz w2 < sz w3 := f3.lt hWs
    try simp (maxDischargeDepth := 8) [↓bindV_some, ↓bindU_some, ↓condE_true, ↓condE_false, ↓pickE_true, ↓pickE_false, ↓pickE_or, ↓pickE_and, ↓grdE_true, ↓grdE_false, ↓grdE_tf, ↓grdE_ft, ↓grdE_undef, ↓nilE_pt, ↓thenK_normal, ↓thenK_exit, ↓thenK_ret, ↓thenK_goto, ↓thenK_panic, ↓blockK_exit, ↓blockK_normal, ↓blockK_ret, ↓blockK_goto, ↓blockK_panic, ↓loopK_normal, ↓loopK_exit, ↓loopK_ret, ↓loopK_goto, ↓loopK_panic, ↓topK_ret, ↓topK_normal, ↓topK_panic, ↓resVs_nil, ↓resVs_tmp, ↓resVs_cell, tup_one, tup_nil, tup_two, put_get, argE_get, ↓takeE_def, ↓heldE_nil, ↓heldE_cons, qNil_pt, qPick_bool, qGrd_bool, qGrd_undef, ↓letK_def, pBox_eq, pBin_add, pBin_sub, pBin_mul, pBin_eql, pBin_neq, pBin_lss, pBin_leq, pBin_gtr, pBin_geq, pUn_not, pUn_neg, eqB, neB, eqS, neS, pExtract0, pExtract1, pExtract2, max_int, min_int, sz_nw, sz_wr, sz_drew, mm_nw, fz_nw, mm_drew, fz_drew, fz_wr, sz_mkS, mm_mkS, fz_mkS, Fr.mkS, mm_wr_same, mm_wr_ne, wr_wr, bs_oneT, splice_full, gt_zero, gt_succ, gt_set, gt_bs, byte_eq0, byte_eq1, byte_n0, byte_n1, Fr.refl, Fr.nw, Fr.wr, Fr.drew, hlv, k1, k2, k3, k4, hXm, hXs]
    exact gW.trans0 f3
end Go.Proofs.Ytfmcplkijjndlaa

