/- RollScans: the disk is filled. -/
import Derived.Test.YticncfkpfpkfoaaRollX
import Derived.Test.YticncfkpfpkfoaaRollT
import Derived.Test.YticncfkpfpkfoaaWRollC
set_option linter.unusedVariables false
set_option linter.unusedSimpArgs false
namespace Go.Proofs.Yticncfkpfpkfoaa
open Go

def FsI (w0 : World) (v : Value) (S : List (List UInt8)) (b bx : Nat) (bc : List Value) (m : Nat) (e : Env) (w' : World) : Prop :=
  ∃ (j : Nat) (D : DD) (F : List Nat), m = S.length - j ∧ j ≤ S.length ∧ Fr [] w0 w' ∧ IsD w' b D F ∧ (∀ k ∈ F, sz w0 ≤ k ∧ k ≠ bx) ∧ mm w' bx = bc ∧ fz w' bx = false ∧ CalmN S.length D ∧ (∀ i, i < j → view D i = S.getD i []) ∧ D.pend.length ≤ j ∧ D.writes ≤ j ∧
    e 0 = v ∧ e 3 = pt bx 0 ∧ e 5 = pt b 0 ∧ e 40 = v ∧ e 41 = i64 S.length ∧ e 42 = i64 j
theorem fill_step {w0 : World} {v : Value} {S : List (List UInt8)} {b bx : Nat} {bc : List Value} (h : RdV w0 v S.length (flat bs S)) (hS : ∀ s ∈ S, s.length = 64) (hl : S.length ≤ 60) {m : Nat} {e : Env} {w1 : World} (hI : FsI w0 v S b bx bc m e w1) {K : KT}
    (hN : ∀ m' e' w', m' < m → FsI w0 v S b bx bc m' e' w' → K .normal e' w') (hX : ∀ e' w', FsI w0 v S b bx bc 0 e' w' → K (.exit 0) e' w') : F13B0 e w1 K := by
  obtain ⟨j, D, F, hm, hj, hf, hd, hF, hbm, hbz, hc, hv, hp, hwr, e0, e3, e5, e40, e41, e42⟩ := hI
  subst hm
  unfold F13B0
  by_cases hjl : j < S.length
  · have t1 : (j < S.length) = True := eq_true hjl
    have t2 : ((j : Int) < S.length) = True := eq_true (by omega)
    obtain ⟨s, hs⟩ : ∃ s, S[j]? = some s := ⟨_, List.getElem?_eq_getElem hjl⟩
    have hs64 := hS s (List.mem_of_getElem? hs)
    obtain ⟨sb, so, sc, hsv2, hsb, hin, htk⟩ := flat_at (n := 64) (h.fr0 hf) (fun p hp => by rw [bs_length]; exact hS p hp) (by omega) hs
    have hia : ∀ w', pIndexAddr P 76 v (i64 j) w' = some (pt sb (so + j * 64), w') := fun w' => by
      rw [hsv2]
      have := ia76 (w := w') (b := sb) (o := so) (n := S.length) (c := sc) (k := .i64) (j := (j : Int)) (by omega) (by omega)
      rw [this]; simp
    have hld0 : pLoad P 25 (pt sb (so + j * 64)) w1 = some (sec s, w1) := by rw [ld25 hin, htk]
    have hst : pStore P 25 (pt (sz w1) 0) (sec s) (nw w1 (bs (zb 64)) 25) = some (wr (nw w1 (bs (zb 64)) 25) (sz w1) (bs s)) := by
      try simp (maxDischargeDepth := 8) [↓bindV_some, ↓bindU_some, ↓condE_true, ↓condE_false, ↓pickE_true, ↓pickE_false, ↓pickE_or, ↓pickE_and, ↓grdE_true, ↓grdE_false, ↓grdE_tf, ↓grdE_ft, ↓grdE_undef, ↓nilE_pt, ↓thenK_normal, ↓thenK_exit, ↓thenK_ret, ↓thenK_goto, ↓thenK_panic, ↓blockK_exit, ↓blockK_normal, ↓blockK_ret, ↓blockK_goto, ↓blockK_panic, ↓loopK_normal, ↓loopK_exit, ↓loopK_ret, ↓loopK_goto, ↓loopK_panic, ↓topK_ret, ↓topK_normal, ↓topK_panic, ↓resVs_nil, ↓resVs_tmp, ↓resVs_cell, tup_one, tup_nil, tup_two, put_get, argE_get, ↓takeE_def, ↓heldE_nil, ↓heldE_cons, qNil_pt, qPick_bool, qGrd_bool, qGrd_undef, ↓letK_def, pBox_eq, pBin_add, pBin_sub, pBin_mul, pBin_eql, pBin_neq, pBin_lss, pBin_leq, pBin_gtr, pBin_geq, pUn_not, pUn_neg, eqB, neB, eqS, neS, pExtract0, pExtract1, pExtract2, max_int, min_int, sz_nw, sz_wr, sz_drew, mm_nw, fz_nw, mm_drew, fz_drew, fz_wr, sz_mkS, mm_mkS, fz_mkS, Fr.mkS, mm_wr_same, mm_wr_ne, wr_wr, bs_oneT, splice_full, gt_zero, gt_succ, gt_set, gt_bs, byte_eq0, byte_eq1, byte_n0, byte_n1, Fr.refl, Fr.nw, Fr.wr, Fr.drew, hs64]
    obtain ⟨X, hX1⟩ : ∃ X, X = wr (nw w1 (bs (zb 64)) 25) (sz w1) (bs s) := ⟨_, rfl⟩
    rw [← hX1] at hst
    have fX : Fr [] w1 X := by rw [hX1]; exact ((Fr.refl [] w1).nw _ _).wr (.inr (Nat.le_refl _)) _
    have hXm : mm X (sz w1) = bs s := by rw [hX1, mm_wr_same]; simp [sz_nw, sz_wr, sz_drew, mm_nw, fz_nw, mm_drew, fz_drew, fz_wr, sz_mkS, mm_mkS, fz_mkS, Fr.mkS, mm_wr_same, mm_wr_ne, wr_wr, bs_oneT, splice_full, gt_zero, gt_succ, gt_set, gt_bs, byte_eq0, byte_eq1, byte_n0, byte_n1, Fr.refl, Fr.nw, Fr.wr, Fr.drew]
    have hld1 : pLoad P 25 (pt (sz w1) 0) X = some (sec s, X) := by
      rw [ld25 (by rw [hXm, bs_length]; omega), hXm, List.drop_zero, List.take_of_length_le (by rw [bs_length]; omega)]
    try simp (maxDischargeDepth := 8) [↓bindV_some, ↓bindU_some, ↓condE_true, ↓condE_false, ↓pickE_true, ↓pickE_false, ↓pickE_or, ↓pickE_and, ↓grdE_true, ↓grdE_false, ↓grdE_tf, ↓grdE_ft, ↓grdE_undef, ↓nilE_pt, ↓thenK_normal, ↓thenK_exit, ↓thenK_ret, ↓thenK_goto, ↓thenK_panic, ↓blockK_exit, ↓blockK_normal, ↓blockK_ret, ↓blockK_goto, ↓blockK_panic, ↓loopK_normal, ↓loopK_exit, ↓loopK_ret, ↓loopK_goto, ↓loopK_panic, ↓topK_ret, ↓topK_normal, ↓topK_panic, ↓resVs_nil, ↓resVs_tmp, ↓resVs_cell, tup_one, tup_nil, tup_two, put_get, argE_get, ↓takeE_def, ↓heldE_nil, ↓heldE_cons, qNil_pt, qPick_bool, qGrd_bool, qGrd_undef, ↓letK_def, pBox_eq, pBin_add, pBin_sub, pBin_mul, pBin_eql, pBin_neq, pBin_lss, pBin_leq, pBin_gtr, pBin_geq, pUn_not, pUn_neg, eqB, neB, eqS, neS, pExtract0, pExtract1, pExtract2, max_int, min_int, sz_nw, sz_wr, sz_drew, mm_nw, fz_nw, mm_drew, fz_drew, fz_wr, sz_mkS, mm_mkS, fz_mkS, Fr.mkS, mm_wr_same, mm_wr_ne, wr_wr, bs_oneT, splice_full, gt_zero, gt_succ, gt_set, gt_bs, byte_eq0, byte_eq1, byte_n0, byte_n1, Fr.refl, Fr.nw, Fr.wr, Fr.drew, e40, e41, e42, e5, t1, t2, hia, hld0, hst, hld1, -ld25, -st25]
    refine (write_spec (x := (j : Int)) (s := s) (hd.fr0 fX) hs64 (by omega) (by omega)).call ?_
    rintro _ w2 ⟨rfl, F2, hd2, hf2, hF2⟩
    have hwj : IntKind.i64.wrap ((j : Int) + 1) = ((j + 1 : Nat) : Int) := wrap64 (by omega) (by omega)
    have hp2 := writeD_pend D (j : Int) s
    have hw2 := writeD_writes D (j : Int) s
    have hfx := hf.trans0 fX
    try simp (maxDischargeDepth := 8) [↓bindV_some, ↓bindU_some, ↓condE_true, ↓condE_false, ↓pickE_true, ↓pickE_false, ↓pickE_or, ↓pickE_and, ↓grdE_true, ↓grdE_false, ↓grdE_tf, ↓grdE_ft, ↓grdE_undef, ↓nilE_pt, ↓thenK_normal, ↓thenK_exit, ↓thenK_ret, ↓thenK_goto, ↓thenK_panic, ↓blockK_exit, ↓blockK_normal, ↓blockK_ret, ↓blockK_goto, ↓blockK_panic, ↓loopK_normal, ↓loopK_exit, ↓loopK_ret, ↓loopK_goto, ↓loopK_panic, ↓topK_ret, ↓topK_normal, ↓topK_panic, ↓resVs_nil, ↓resVs_tmp, ↓resVs_cell, tup_one, tup_nil, tup_two, put_get, argE_get, ↓takeE_def, ↓heldE_nil, ↓heldE_cons, qNil_pt, qPick_bool, qGrd_bool, qGrd_undef, ↓letK_def, pBox_eq, pBin_add, pBin_sub, pBin_mul, pBin_eql, pBin_neq, pBin_lss, pBin_leq, pBin_gtr, pBin_geq, pUn_not, pUn_neg, eqB, neB, eqS, neS, pExtract0, pExtract1, pExtract2, max_int, min_int, sz_nw, sz_wr, sz_drew, mm_nw, fz_nw, mm_drew, fz_drew, fz_wr, sz_mkS, mm_mkS, fz_mkS, Fr.mkS, mm_wr_same, mm_wr_ne, wr_wr, bs_oneT, splice_full, gt_zero, gt_succ, gt_set, gt_bs, byte_eq0, byte_eq1, byte_n0, byte_n1, Fr.refl, Fr.nw, Fr.wr, Fr.drew, e42, hwj, -Int.natCast_add]
    refine hN (S.length - (j + 1)) _ _ (by omega) ⟨j + 1, _, F2, rfl, by omega, hfx.trans hf2 (fun k hk => .inr (hF k hk).1), hd2, fun k hk => (hF2 k hk).elim (hF k) (fun h => ⟨Nat.le_trans hfx.size h, by have := fX.size; have := lt_of_fz hbz; omega⟩), by rw [hf2.mm (fX.lt (lt_of_fz hbz)) (fun hk => (hF _ hk).2 rfl), fX.mm (lt_of_fz hbz) (by simp), hbm], by rw [hf2.fz (fX.lt (lt_of_fz hbz)) (fun hk => (hF _ hk).2 rfl), fX.fz (lt_of_fz hbz) (by simp), hbz], hc.write (x := j) hjl s, fun i hi => ?_, by omega, by omega,
      by simp [put_get, e0], by simp [put_get, e3], by simp [put_get, e5], by simp [put_get, e40], by simp [put_get, e41], by simp [put_get]⟩
    rw [view_write (hc.ok (x := j) hjl)]
    by_cases hij : j = i
    · subst hij
      rw [if_pos rfl, List.getD_eq_getElem?_getD, hs]; rfl
    · rw [if_neg (by omega)]
      exact hv i (by omega)
  · have t1 : (j < S.length) = False := eq_false hjl
    have t2 : ((j : Int) < S.length) = False := eq_false (by omega)
    try simp (maxDischargeDepth := 8) [↓bindV_some, ↓bindU_some, ↓condE_true, ↓condE_false, ↓pickE_true, ↓pickE_false, ↓pickE_or, ↓pickE_and, ↓grdE_true, ↓grdE_false, ↓grdE_tf, ↓grdE_ft, ↓grdE_undef, ↓nilE_pt, ↓thenK_normal, ↓thenK_exit, ↓thenK_ret, ↓thenK_goto, ↓thenK_panic, ↓blockK_exit, ↓blockK_normal, ↓blockK_ret, ↓blockK_goto, ↓blockK_panic, ↓loopK_normal, ↓loopK_exit, ↓loopK_ret, ↓loopK_goto, ↓loopK_panic, ↓topK_ret, ↓topK_normal, ↓topK_panic, ↓resVs_nil, ↓resVs_tmp, ↓resVs_cell, tup_one, tup_nil, tup_two, put_get, argE_get, ↓takeE_def, ↓heldE_nil, ↓heldE_cons, qNil_pt, qPick_bool, qGrd_bool, qGrd_undef, ↓letK_def, pBox_eq, pBin_add, pBin_sub, pBin_mul, pBin_eql, pBin_neq, pBin_lss, pBin_leq, pBin_gtr, pBin_geq, pUn_not, pUn_neg, eqB, neB, eqS, neS, pExtract0, pExtract1, pExtract2, max_int, min_int, sz_nw, sz_wr, sz_drew, mm_nw, fz_nw, mm_drew, fz_drew, fz_wr, sz_mkS, mm_mkS, fz_mkS, Fr.mkS, mm_wr_same, mm_wr_ne, wr_wr, bs_oneT, splice_full, gt_zero, gt_succ, gt_set, gt_bs, byte_eq0, byte_eq1, byte_n0, byte_n1, Fr.refl, Fr.nw, Fr.wr, Fr.drew, e41, e42, t1, t2]
    exact hX _ _ ⟨j, D, F, by omega, hj, hf, hd, hF, hbm, hbz, hc, hv, hp, hwr, by simp [put_get, e0], by simp [put_get, e3], by simp [put_get, e5], by simp [put_get, e40], by simp [put_get, e41], by simp [put_get, e42]⟩
end Go.Proofs.Yticncfkpfpkfoaa
