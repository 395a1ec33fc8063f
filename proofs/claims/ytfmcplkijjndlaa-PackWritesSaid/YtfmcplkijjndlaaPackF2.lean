/- The document's parts: what its functions compute. -/
import Derived.Test.YtfmcplkijjndlaaPackF
set_option linter.unusedVariables false
set_option linter.unusedSimpArgs false
namespace Go.Proofs.Ytfmcplkijjndlaa
open Go

def refC (p : PartR) : List Value := [bv p.kind, u64 p.u, i64 p.i, u64 p.k, strB p.s, .bool p.b]
def zR (kind : UInt8) : PartR := ⟨kind, 0, 0, 0, [], false⟩
theorem refC_oneT (p : PartR) : (∀ v, v ∈ refC p → v.oneCell' = true) = True := by
  simp only [eq_iff_iff, iff_true]
  intro v hv
  simp only [refC, List.mem_cons, List.not_mem_nil, or_false] at hv
  rcases hv with rfl | rfl | rfl | rfl | rfl | rfl <;> rfl
def FirstR (w : World) (r : PartP × Nat × Nat) (x : Value) (w' : World) : Prop :=
  ∃ q : PartR, x = .tuple #[.agg (refC q).toArray, i64 r.2.1, i64 r.2.2] ∧ (r.2.2 = 0 → q = plain r.1) ∧ Fr [] w w'

def FpI (w W : World) (v : Value) (B : List UInt8) (kind : UInt8) (m : Nat) (e : Env) (w' : World) : Prop :=
  ∃ (j n : Nat), m = 8 - j ∧ j ≤ 8 ∧ n < 256 ^ j ∧ (placeM 8 0 B).1 = (placeM (8 - j) n (B.drop j)).1 ∧ mm w' (sz w + 1) = refC { zR kind with k := n } ∧ fz w' (sz w + 1) = false ∧ Fr [sz w + 1] W w' ∧
    e 0 = v ∧ e 1 = bv kind ∧ e 6 = pt (sz w) 0 ∧ e 9 = pt (sz w + 1) 0 ∧ e 11 = i64 j

theorem ffirst_spec {w : World} {v : Value} {B : List UInt8} {kind : UInt8} {most : Int} (h : RdV w v B.length (bs B)) (hm : most < 9223372036854775808) (hm0 : -9223372036854775808 ≤ most) :
    Ret P 66 #[v, bv kind, i64 most] w fun x w' => FirstR w (partM kind most B) x w' := by
  refine F66ok ?_
  unfold F66
  obtain ⟨va, vc, hv⟩ := sl_of h
  have hlen := h.len
  obtain ⟨z, hz⟩ : ∃ z : List Value, z = refC (zR 0) := ⟨_, rfl⟩
  have hz' : [Value.int IntKind.u8 0, Value.int IntKind.u64 0, Value.int IntKind.i64 0, Value.int IntKind.u64 0, Value.string ByteArray.empty, Value.bool false] = z := by rw [hz]; rfl
  have hs6 : ∀ p l : List Value, l.length = 6 → p.length = 6 → splice l 0 p = p := fun p l hl hp => splice_full (by rw [hl, hp])
  have hbld : ∀ w, pBuild P 75 [(0, bv kind)] w = some (.agg (refC (zR kind)).toArray, w) := fun w => by
    rw [bf75 (by simp)]; rfl
  have hzl : z.length = 6 := by rw [hz]; rfl
  have hpl : ∀ p, (refC p).length = 6 := fun _ => rfl
  obtain ⟨W, hW⟩ : ∃ W, W = wr (nw (nw w z 75) z 75) (sz w + 1) (refC (zR kind)) := ⟨_, rfl⟩
  have hfW : Fr [] w W := by rw [hW]; exact (((Fr.refl [] w).nw _ _).nw _ _).wr (.inr (by omega)) _
  have hsW : sz W = sz w + 1 + 1 := by rw [hW]; simp [sz_nw, sz_wr, sz_drew, mm_nw, fz_nw, mm_drew, fz_drew, fz_wr, sz_mkS, mm_mkS, fz_mkS, Fr.mkS, mm_wr_same, mm_wr_ne, wr_wr, bs_oneT, splice_full, gt_zero, gt_succ, gt_set, gt_bs, byte_eq0, byte_eq1, byte_n0, byte_n1, Fr.refl, Fr.nw, Fr.wr, Fr.drew]
  have hmW : mm W (sz w + 1) = refC (zR kind) := by rw [hW]; simp [sz_nw, sz_wr, sz_drew, mm_nw, fz_nw, mm_drew, fz_drew, fz_wr, sz_mkS, mm_mkS, fz_mkS, Fr.mkS, mm_wr_same, mm_wr_ne, wr_wr, bs_oneT, splice_full, gt_zero, gt_succ, gt_set, gt_bs, byte_eq0, byte_eq1, byte_n0, byte_n1, Fr.refl, Fr.nw, Fr.wr, Fr.drew]
  have hzW : fz W (sz w + 1) = false := by rw [hW]; simp [sz_nw, sz_wr, sz_drew, mm_nw, fz_nw, mm_drew, fz_drew, fz_wr, sz_mkS, mm_mkS, fz_mkS, Fr.mkS, mm_wr_same, mm_wr_ne, wr_wr, bs_oneT, splice_full, gt_zero, gt_succ, gt_set, gt_bs, byte_eq0, byte_eq1, byte_n0, byte_n1, Fr.refl, Fr.nw, Fr.wr, Fr.drew]
  have hmW0 : mm W (sz w) = z := by rw [hW]; simp [sz_nw, sz_wr, sz_drew, mm_nw, fz_nw, mm_drew, fz_drew, fz_wr, sz_mkS, mm_mkS, fz_mkS, Fr.mkS, mm_wr_same, mm_wr_ne, wr_wr, bs_oneT, splice_full, gt_zero, gt_succ, gt_set, gt_bs, byte_eq0, byte_eq1, byte_n0, byte_n1, Fr.refl, Fr.nw, Fr.wr, Fr.drew]
  have hzW0 : fz W (sz w) = false := by rw [hW]; simp [sz_nw, sz_wr, sz_drew, mm_nw, fz_nw, mm_drew, fz_drew, fz_wr, sz_mkS, mm_mkS, fz_mkS, Fr.mkS, mm_wr_same, mm_wr_ne, wr_wr, bs_oneT, splice_full, gt_zero, gt_succ, gt_set, gt_bs, byte_eq0, byte_eq1, byte_n0, byte_n1, Fr.refl, Fr.nw, Fr.wr, Fr.drew]
  have hrW := h.fr0 hfW
  have n01 : ¬ sz w = sz w + 1 := by omega
  have n10 : ¬ sz w + 1 = sz w := by omega
  have ht6 : ∀ q, List.take 6 (refC q) = refC q := fun q => rfl
  have fin1 : ∀ (q : PartR) (w2 : World), Fr [] W w2 → Fr [] w (wr (wr w2 (sz w + 1) (refC q)) (sz w) (refC q)) := fun q w2 hf => ((hfW.trans0 hf).wr (.inr (by omega)) _).wr (.inr (by omega)) _
  have fin0 : ∀ (q : PartR) (w2 : World), Fr [] W w2 → Fr [] w (wr w2 (sz w) (refC q)) := fun q w2 hf => (hfW.trans0 hf).wr (.inr (by omega)) _
  try simp only [al75, hz']
  try simp (maxDischargeDepth := 8) [↓bindV_some, ↓bindU_some, ↓condE_true, ↓condE_false, ↓pickE_true, ↓pickE_false, ↓pickE_or, ↓pickE_and, ↓grdE_true, ↓grdE_false, ↓grdE_tf, ↓grdE_ft, ↓grdE_undef, ↓nilE_pt, ↓thenK_normal, ↓thenK_exit, ↓thenK_ret, ↓thenK_goto, ↓thenK_panic, ↓blockK_exit, ↓blockK_normal, ↓blockK_ret, ↓blockK_goto, ↓blockK_panic, ↓loopK_normal, ↓loopK_exit, ↓loopK_ret, ↓loopK_goto, ↓loopK_panic, ↓topK_ret, ↓topK_normal, ↓topK_panic, ↓resVs_nil, ↓resVs_tmp, ↓resVs_cell, tup_one, tup_nil, tup_two, put_get, argE_get, ↓takeE_def, ↓heldE_nil, ↓heldE_cons, qNil_pt, qPick_bool, qGrd_bool, qGrd_undef, ↓letK_def, pBox_eq, pBin_add, pBin_sub, pBin_mul, pBin_eql, pBin_neq, pBin_lss, pBin_leq, pBin_gtr, pBin_geq, pUn_not, pUn_neg, eqB, neB, eqS, neS, pExtract0, pExtract1, pExtract2, max_int, min_int, sz_nw, sz_wr, sz_drew, mm_nw, fz_nw, mm_drew, fz_drew, fz_wr, sz_mkS, mm_mkS, fz_mkS, Fr.mkS, mm_wr_same, mm_wr_ne, wr_wr, bs_oneT, splice_full, gt_zero, gt_succ, gt_set, gt_bs, byte_eq0, byte_eq1, byte_n0, byte_n1, Fr.refl, Fr.nw, Fr.wr, Fr.drew, hbld, hs6, hzl, hpl, refC_oneT, ← hW, ki117, ki105, ki102, ki115, ki98]
  have keep : ∀ {w2 : World}, Fr [] W w2 → mm w2 (sz w + 1) = refC (zR kind) ∧ fz w2 (sz w + 1) = false ∧ mm w2 (sz w) = z ∧ fz w2 (sz w) = false := fun {w2} hf =>
    ⟨by rw [hf.mm (by omega) (by simp), hmW], by rw [hf.fz (by omega) (by simp), hzW], by rw [hf.mm (by omega) (by simp), hmW0], by rw [hf.fz (by omega) (by simp), hzW0]⟩
  obtain ⟨r, hr⟩ : ∃ r, r = partM kind most B := ⟨_, rfl⟩
  have hrd0 : ∀ (x : UInt8) (t : List UInt8), B = x :: t → ∃ ab ao ac, v = sl ab ao B.length ac ∧ ao + 0 < (mm w ab).length ∧ gt (mm w ab) (ao + 0) = bv x ∧ ab < sz w := fun x t hB => by
    have h0 : 0 < B.length := by rw [hB]; simp
    obtain ⟨ab, ao, ac, e1, e2, e3⟩ := rd_cell h (i := 0) h0
    have hx : gb B 0 = x := by rw [hB]; rfl
    refine ⟨ab, ao, ac, e1, e2, by rw [← hx]; exact e3, lt_of_mm e2⟩
  rw [← hr]
  by_cases k5 : kind = 98
  · have hpm : r = ({ zP kind with b := (flagM B).1 }, (flagM B).2.1, (flagM B).2.2) := by rw [hr]; unfold partM; rw [if_neg (by rw [k5]; decide), if_neg (by rw [k5]; decide), if_neg (by rw [k5]; decide), if_neg (by rw [k5]; decide), if_pos k5]
    have k3 : ¬ kind = 102 := by rw [k5]; decide
    have k5' : (kind = 98) = True := eq_true k5
    cases B with
    | nil =>
      have hr2 : r.2 = (0, 2) := by rw [hpm]; rfl
      subst hv
      try simp (maxDischargeDepth := 8) [↓bindV_some, ↓bindU_some, ↓condE_true, ↓condE_false, ↓pickE_true, ↓pickE_false, ↓pickE_or, ↓pickE_and, ↓grdE_true, ↓grdE_false, ↓grdE_tf, ↓grdE_ft, ↓grdE_undef, ↓nilE_pt, ↓thenK_normal, ↓thenK_exit, ↓thenK_ret, ↓thenK_goto, ↓thenK_panic, ↓blockK_exit, ↓blockK_normal, ↓blockK_ret, ↓blockK_goto, ↓blockK_panic, ↓loopK_normal, ↓loopK_exit, ↓loopK_ret, ↓loopK_goto, ↓loopK_panic, ↓topK_ret, ↓topK_normal, ↓topK_panic, ↓resVs_nil, ↓resVs_tmp, ↓resVs_cell, tup_one, tup_nil, tup_two, put_get, argE_get, ↓takeE_def, ↓heldE_nil, ↓heldE_cons, qNil_pt, qPick_bool, qGrd_bool, qGrd_undef, ↓letK_def, pBox_eq, pBin_add, pBin_sub, pBin_mul, pBin_eql, pBin_neq, pBin_lss, pBin_leq, pBin_gtr, pBin_geq, pUn_not, pUn_neg, eqB, neB, eqS, neS, pExtract0, pExtract1, pExtract2, max_int, min_int, sz_nw, sz_wr, sz_drew, mm_nw, fz_nw, mm_drew, fz_drew, fz_wr, sz_mkS, mm_mkS, fz_mkS, Fr.mkS, mm_wr_same, mm_wr_ne, wr_wr, bs_oneT, splice_full, gt_zero, gt_succ, gt_set, gt_bs, byte_eq0, byte_eq1, byte_n0, byte_n1, Fr.refl, Fr.nw, Fr.wr, Fr.drew, k3, k5', ki102, ki98, hmW, hzW, hmW0, hzW0, hpl, hzl, ht6, hs6, refC_oneT]
      exact ⟨zR kind, by rw [hr2]; simp [k5], by rw [hr2]; simp, fin0 _ _ (Fr.refl _ _)⟩
    | cons x t =>
      obtain ⟨ab, ao, ac, e1, e2, e3, e4⟩ := hrd0 x t rfl
      have hlt1 : ((x :: t).length : Int) < 1 ↔ False := by simp; omega
      have hnl : ¬ ((((x :: t).length : Nat) : Int) < 1) := by simp; omega
      obtain ⟨N, hN⟩ : ∃ N, N = (x :: t).length := ⟨_, rfl⟩
      have hN1 : 1 ≤ N := by rw [hN]; simp
      rw [← hN] at e1 h hlen hv hrW
      have c1 : ((N : Int) < 1) = False := eq_false (by omega)
      have c1' : (N < 1) = False := eq_false (by omega)
      have c1'' : (N = 0) = False := eq_false (by omega)
      have n4 : ¬ ab = sz w := by omega
      have n5 : ¬ ab = sz w + 1 := by omega
      have hWa : mm W ab = mm w ab := by rw [hW]; simp [sz_nw, sz_wr, sz_drew, mm_nw, fz_nw, mm_drew, fz_drew, fz_wr, sz_mkS, mm_mkS, fz_mkS, Fr.mkS, mm_wr_same, mm_wr_ne, wr_wr, bs_oneT, splice_full, gt_zero, gt_succ, gt_set, gt_bs, byte_eq0, byte_eq1, byte_n0, byte_n1, Fr.refl, Fr.nw, Fr.wr, Fr.drew, n4, n5]
      have hia : ∀ w', pIndexAddr P 40 (sl ab ao N ac) (Value.int .i64 0) w' = some (pt ab (ao + 0), w') := fun w' => by
        have := ia40 (w := w') (b := ab) (o := ao) (n := N) (c := ac) (k := .i64) (j := 0) (by omega) (by omega)
        simpa using this
      rw [Nat.add_zero] at e2 e3
      have hia' : ∀ w', pIndexAddr P 40 (sl ab ao N ac) (Value.int .i64 0) w' = some (pt ab ao, w') := fun w' => by rw [hia]; rfl
      have hset : (refC (zR kind)).set 5 (.bool (decide (x = 1))) = refC { zR kind with b := decide (x = 1) } := rfl
      obtain ⟨q, hq⟩ : ∃ q : PartR, q = { zR kind with b := decide (x = 1) } := ⟨_, rfl⟩
      rw [← hq] at hset
      subst e1
      by_cases hx : 1 < x.toNat
      · have d1 : (1 < x.toNat) = True := eq_true hx
        have d2 : ((1 : Int) < x.toNat) = True := eq_true (by omega)
        have hr2 : r.2 = (1, 4) := by rw [hpm]; simp [flagM, hx]
        try simp (maxDischargeDepth := 8) [↓bindV_some, ↓bindU_some, ↓condE_true, ↓condE_false, ↓pickE_true, ↓pickE_false, ↓pickE_or, ↓pickE_and, ↓grdE_true, ↓grdE_false, ↓grdE_tf, ↓grdE_ft, ↓grdE_undef, ↓nilE_pt, ↓thenK_normal, ↓thenK_exit, ↓thenK_ret, ↓thenK_goto, ↓thenK_panic, ↓blockK_exit, ↓blockK_normal, ↓blockK_ret, ↓blockK_goto, ↓blockK_panic, ↓loopK_normal, ↓loopK_exit, ↓loopK_ret, ↓loopK_goto, ↓loopK_panic, ↓topK_ret, ↓topK_normal, ↓topK_panic, ↓resVs_nil, ↓resVs_tmp, ↓resVs_cell, tup_one, tup_nil, tup_two, put_get, argE_get, ↓takeE_def, ↓heldE_nil, ↓heldE_cons, qNil_pt, qPick_bool, qGrd_bool, qGrd_undef, ↓letK_def, pBox_eq, pBin_add, pBin_sub, pBin_mul, pBin_eql, pBin_neq, pBin_lss, pBin_leq, pBin_gtr, pBin_geq, pUn_not, pUn_neg, eqB, neB, eqS, neS, pExtract0, pExtract1, pExtract2, max_int, min_int, sz_nw, sz_wr, sz_drew, mm_nw, fz_nw, mm_drew, fz_drew, fz_wr, sz_mkS, mm_mkS, fz_mkS, Fr.mkS, mm_wr_same, mm_wr_ne, wr_wr, bs_oneT, splice_full, gt_zero, gt_succ, gt_set, gt_bs, byte_eq0, byte_eq1, byte_n0, byte_n1, Fr.refl, Fr.nw, Fr.wr, Fr.drew, k3, k5', ki102, ki98, c1, c1', c1'', hia', e2, e3, hWa, hmW, hzW, hmW0, hzW0, hset, d1, d2, hpl, hzl, ht6, hs6, refC_oneT, n01, n10, n4, n5]
        refine ⟨q, by rw [hr2]; rfl, by rw [hr2]; simp, ?_⟩
        exact fin1 q W (Fr.refl _ _)
      · have d1 : (1 < x.toNat) = False := eq_false hx
        have d2 : ((1 : Int) < x.toNat) = False := eq_false (by omega)
        have hr2 : r.2 = (1, 0) := by rw [hpm]; simp [flagM, hx]
        try simp (maxDischargeDepth := 8) [↓bindV_some, ↓bindU_some, ↓condE_true, ↓condE_false, ↓pickE_true, ↓pickE_false, ↓pickE_or, ↓pickE_and, ↓grdE_true, ↓grdE_false, ↓grdE_tf, ↓grdE_ft, ↓grdE_undef, ↓nilE_pt, ↓thenK_normal, ↓thenK_exit, ↓thenK_ret, ↓thenK_goto, ↓thenK_panic, ↓blockK_exit, ↓blockK_normal, ↓blockK_ret, ↓blockK_goto, ↓blockK_panic, ↓loopK_normal, ↓loopK_exit, ↓loopK_ret, ↓loopK_goto, ↓loopK_panic, ↓topK_ret, ↓topK_normal, ↓topK_panic, ↓resVs_nil, ↓resVs_tmp, ↓resVs_cell, tup_one, tup_nil, tup_two, put_get, argE_get, ↓takeE_def, ↓heldE_nil, ↓heldE_cons, qNil_pt, qPick_bool, qGrd_bool, qGrd_undef, ↓letK_def, pBox_eq, pBin_add, pBin_sub, pBin_mul, pBin_eql, pBin_neq, pBin_lss, pBin_leq, pBin_gtr, pBin_geq, pUn_not, pUn_neg, eqB, neB, eqS, neS, pExtract0, pExtract1, pExtract2, max_int, min_int, sz_nw, sz_wr, sz_drew, mm_nw, fz_nw, mm_drew, fz_drew, fz_wr, sz_mkS, mm_mkS, fz_mkS, Fr.mkS, mm_wr_same, mm_wr_ne, wr_wr, bs_oneT, splice_full, gt_zero, gt_succ, gt_set, gt_bs, byte_eq0, byte_eq1, byte_n0, byte_n1, Fr.refl, Fr.nw, Fr.wr, Fr.drew, k3, k5', ki102, ki98, c1, c1', c1'', hia', e2, e3, hWa, hmW, hzW, hmW0, hzW0, hset, d1, d2, hpl, hzl, ht6, hs6, refC_oneT, n01, n10, n4, n5]
        refine ⟨q, by rw [hr2]; rfl, fun _ => ?_, fin1 q W (Fr.refl _ _)⟩
        rw [hq, hpm]
        simp [plain, zR, zP, flagM, hx, k5]
  by_cases k3 : kind = 102
  · have hpm : r = ({ zP kind with f := (floatM B).1 }, (floatM B).2.1, (floatM B).2.2) := by rw [hr]; unfold partM; rw [if_neg (by rw [k3]; decide), if_neg (by rw [k3]; decide), if_pos k3]
    have k3' : (kind = 102) = True := eq_true k3
    by_cases hl8 : B.length < 8
    · have d1 : ((B.length : Int) < 8) = True := eq_true (by omega)
      have d2 : (B.length < 8) = True := eq_true hl8
      have hfl : floatM B = (0, B.length, 2) := by unfold floatM; rw [placeM_short 8 0 B hl8]; simp
      have hr2 : r.2 = (B.length, 2) := by rw [hpm, hfl]
      subst hv
      try simp (maxDischargeDepth := 8) [↓bindV_some, ↓bindU_some, ↓condE_true, ↓condE_false, ↓pickE_true, ↓pickE_false, ↓pickE_or, ↓pickE_and, ↓grdE_true, ↓grdE_false, ↓grdE_tf, ↓grdE_ft, ↓grdE_undef, ↓nilE_pt, ↓thenK_normal, ↓thenK_exit, ↓thenK_ret, ↓thenK_goto, ↓thenK_panic, ↓blockK_exit, ↓blockK_normal, ↓blockK_ret, ↓blockK_goto, ↓blockK_panic, ↓loopK_normal, ↓loopK_exit, ↓loopK_ret, ↓loopK_goto, ↓loopK_panic, ↓topK_ret, ↓topK_normal, ↓topK_panic, ↓resVs_nil, ↓resVs_tmp, ↓resVs_cell, tup_one, tup_nil, tup_two, put_get, argE_get, ↓takeE_def, ↓heldE_nil, ↓heldE_cons, qNil_pt, qPick_bool, qGrd_bool, qGrd_undef, ↓letK_def, pBox_eq, pBin_add, pBin_sub, pBin_mul, pBin_eql, pBin_neq, pBin_lss, pBin_leq, pBin_gtr, pBin_geq, pUn_not, pUn_neg, eqB, neB, eqS, neS, pExtract0, pExtract1, pExtract2, max_int, min_int, sz_nw, sz_wr, sz_drew, mm_nw, fz_nw, mm_drew, fz_drew, fz_wr, sz_mkS, mm_mkS, fz_mkS, Fr.mkS, mm_wr_same, mm_wr_ne, wr_wr, bs_oneT, splice_full, gt_zero, gt_succ, gt_set, gt_bs, byte_eq0, byte_eq1, byte_n0, byte_n1, Fr.refl, Fr.nw, Fr.wr, Fr.drew, k5, k3', ki102, ki98, d1, d2, hmW, hzW, hmW0, hzW0, hpl, hzl, ht6, hs6, refC_oneT]
      exact ⟨zR kind, by rw [hr2]; rfl, by rw [hr2]; simp, fin0 _ _ (Fr.refl _ _)⟩
    · have d1 : ((B.length : Int) < 8) = False := eq_false (by omega)
      have d2 : (B.length < 8) = False := eq_false hl8
      have hp2 := placeM_long 8 0 B (by omega)
      subst hv
      try simp (maxDischargeDepth := 8) [↓bindV_some, ↓bindU_some, ↓condE_true, ↓condE_false, ↓pickE_true, ↓pickE_false, ↓pickE_or, ↓pickE_and, ↓grdE_true, ↓grdE_false, ↓grdE_tf, ↓grdE_ft, ↓grdE_undef, ↓nilE_pt, ↓thenK_normal, ↓thenK_exit, ↓thenK_ret, ↓thenK_goto, ↓thenK_panic, ↓blockK_exit, ↓blockK_normal, ↓blockK_ret, ↓blockK_goto, ↓blockK_panic, ↓loopK_normal, ↓loopK_exit, ↓loopK_ret, ↓loopK_goto, ↓loopK_panic, ↓topK_ret, ↓topK_normal, ↓topK_panic, ↓resVs_nil, ↓resVs_tmp, ↓resVs_cell, tup_one, tup_nil, tup_two, put_get, argE_get, ↓takeE_def, ↓heldE_nil, ↓heldE_cons, qNil_pt, qPick_bool, qGrd_bool, qGrd_undef, ↓letK_def, pBox_eq, pBin_add, pBin_sub, pBin_mul, pBin_eql, pBin_neq, pBin_lss, pBin_leq, pBin_gtr, pBin_geq, pUn_not, pUn_neg, eqB, neB, eqS, neS, pExtract0, pExtract1, pExtract2, max_int, min_int, sz_nw, sz_wr, sz_drew, mm_nw, fz_nw, mm_drew, fz_drew, fz_wr, sz_mkS, mm_mkS, fz_mkS, Fr.mkS, mm_wr_same, mm_wr_ne, wr_wr, bs_oneT, splice_full, gt_zero, gt_succ, gt_set, gt_bs, byte_eq0, byte_eq1, byte_n0, byte_n1, Fr.refl, Fr.nw, Fr.wr, Fr.drew, k5, k3', ki102, ki98, d1, d2]
      refine loopE_of (FpI w W (.slice va B.length vc) B kind) 8 ⟨0, 0, by omega, by omega, by omega, rfl, hmW, hzW, Fr.refl _ _, by simp [put_get, argE_get], by simp [put_get, argE_get], by simp [put_get], by simp [put_get], by simp [put_get]⟩ ?_
      rintro m e w1 ⟨j, n, hmj, hj, hn, hp1, m1, z1, hf1, e0, e1, e6, e9, e11⟩
      subst hmj
      unfold F66B0
      have h256 : (256 : Nat) ^ 8 = 2 * H63 := by decide
      have f1 : Fr [] w w1 := hfW.trans hf1 (fun k hk => .inr (by simp at hk; omega))
      by_cases hj8 : j < 8
      · have hji : (j : Int) < 8 := by omega
        obtain ⟨ab, ao, ac, hv2, hc1, hc2⟩ := rd_cell (h.fr0 f1) (i := j) (by omega)
        simp only [Value.slice.injEq] at hv2
        obtain ⟨rfl, _, rfl⟩ := hv2
        have hd : B.drop j = gb B j :: B.drop (j + 1) := drop_gb (by omega)
        rw [hd] at hp1
        generalize gb B j = x at *
        have hx := x.toNat_lt
        have hle : 256 ^ j ≤ 256 ^ 7 := Nat.pow_le_pow_right (by omega) (by omega)
        have h7 : (256 : Nat) ^ 7 * 256 = 2 * H63 := by decide
        have hn7 : n < 256 ^ 7 := Nat.lt_of_lt_of_le hn hle
        have hia : ∀ w', pIndexAddr P 40 (sl ab ao B.length vc) (i64 j) w' = some (pt ab (ao + j), w') := fun w' => by
          have := ia40 (w := w') (b := ab) (o := ao) (n := B.length) (c := vc) (k := .i64) (j := (j : Int)) (by omega) (by omega)
          rw [this]; simp
        have hmu : ∀ w, pBin P .mul 25 true (u64 n) (Value.int .u64 256) w = some (u64 (n * 256), w) := fun w => pMulU (k := 256) rfl (by omega)
        obtain ⟨n2, hn2⟩ : ∃ n2, n2 = n * 256 := ⟨_, rfl⟩
        have hcv : ∀ w, pConv P 5 25 (bv x) w = some (u64 x.toNat, w) := fun w => by rw [pConv_int tyOk5 intK25, wrapu (by unfold H63; omega)]
        have had : ∀ w, pBin P .add 25 false (u64 n2) (u64 x.toNat) w = some (u64 (n2 + x.toNat), w) := fun w => pAddU rfl (by omega)
        obtain ⟨n3, hn3⟩ : ∃ n3, n3 = n2 + x.toNat := ⟨_, rfl⟩
        rw [← hn2] at hmu
        rw [← hn3] at had
        have hwi : IntKind.i64.wrap ((j : Int) + 1) = ((j + 1 : Nat) : Int) := wrap64 (by omega) (by omega)
        obtain ⟨j1, hj1⟩ : ∃ j1 : Int, j1 = ((j + 1 : Nat) : Int) := ⟨_, rfl⟩
        rw [← hj1] at hwi
        have g3 : gt (refC { zR kind with k := n }) 3 = u64 n := rfl
        have hset : (refC { zR kind with k := n }).set 3 (u64 n3) = refC { zR kind with k := n3 } := rfl
        generalize hL : refC { zR kind with k := n } = L at *
        have hLl : L.length = 6 := by rw [← hL]; rfl
        try simp (maxDischargeDepth := 8) [↓bindV_some, ↓bindU_some, ↓condE_true, ↓condE_false, ↓pickE_true, ↓pickE_false, ↓pickE_or, ↓pickE_and, ↓grdE_true, ↓grdE_false, ↓grdE_tf, ↓grdE_ft, ↓grdE_undef, ↓nilE_pt, ↓thenK_normal, ↓thenK_exit, ↓thenK_ret, ↓thenK_goto, ↓thenK_panic, ↓blockK_exit, ↓blockK_normal, ↓blockK_ret, ↓blockK_goto, ↓blockK_panic, ↓loopK_normal, ↓loopK_exit, ↓loopK_ret, ↓loopK_goto, ↓loopK_panic, ↓topK_ret, ↓topK_normal, ↓topK_panic, ↓resVs_nil, ↓resVs_tmp, ↓resVs_cell, tup_one, tup_nil, tup_two, put_get, argE_get, ↓takeE_def, ↓heldE_nil, ↓heldE_cons, qNil_pt, qPick_bool, qGrd_bool, qGrd_undef, ↓letK_def, pBox_eq, pBin_add, pBin_sub, pBin_mul, pBin_eql, pBin_neq, pBin_lss, pBin_leq, pBin_gtr, pBin_geq, pUn_not, pUn_neg, eqB, neB, eqS, neS, pExtract0, pExtract1, pExtract2, max_int, min_int, sz_nw, sz_wr, sz_drew, mm_nw, fz_nw, mm_drew, fz_drew, fz_wr, sz_mkS, mm_mkS, fz_mkS, Fr.mkS, mm_wr_same, mm_wr_ne, wr_wr, bs_oneT, splice_full, gt_zero, gt_succ, gt_set, gt_bs, byte_eq0, byte_eq1, byte_n0, byte_n1, Fr.refl, Fr.nw, Fr.wr, Fr.drew, e0, e6, e9, e11, hji, hj8, m1, z1, hia, hc1, hc2, hmu, hcv, had, hwi, g3, hset, hpl, hLl]
        refine ⟨8 - (j + 1), by omega, j + 1, n3, by omega, by omega, ?_, ?_, mm_wr_same (by rw [fz_drew]; exact z1) _, by rw [fz_wr, fz_drew, z1], hf1.drew.wr (.inl (by simp)) _, by simp [put_get, e0], by simp [put_get, e1], by simp [put_get, e6], by simp [put_get, e9], by simp [put_get, hj1]⟩
        · rw [Nat.pow_succ, hn3, hn2]
          generalize 256 ^ j = p at hn
          clear h7 h256 hle hn7 hmu hcv had hia
          omega
        · have e8 : 8 - j = 8 - (j + 1) + 1 := by omega
          rw [hp1, e8, hn3, hn2]
          rfl
      · have hj8' : j = 8 := by omega
        subst hj8'
        have hfl : (placeM 8 0 B).1 = n := by rw [hp1]; rfl
        have hnn : n < 2 * H63 := by omega
        have g3 : gt (refC { zR kind with k := n }) 3 = u64 n := rfl
        obtain ⟨q, hq⟩ : ∃ q : PartR, q = { zR kind with k := n } := ⟨_, rfl⟩
        rw [← hq] at m1 g3
        try simp (maxDischargeDepth := 8) [↓bindV_some, ↓bindU_some, ↓condE_true, ↓condE_false, ↓pickE_true, ↓pickE_false, ↓pickE_or, ↓pickE_and, ↓grdE_true, ↓grdE_false, ↓grdE_tf, ↓grdE_ft, ↓grdE_undef, ↓nilE_pt, ↓thenK_normal, ↓thenK_exit, ↓thenK_ret, ↓thenK_goto, ↓thenK_panic, ↓blockK_exit, ↓blockK_normal, ↓blockK_ret, ↓blockK_goto, ↓blockK_panic, ↓loopK_normal, ↓loopK_exit, ↓loopK_ret, ↓loopK_goto, ↓loopK_panic, ↓topK_ret, ↓topK_normal, ↓topK_panic, ↓resVs_nil, ↓resVs_tmp, ↓resVs_cell, tup_one, tup_nil, tup_two, put_get, argE_get, ↓takeE_def, ↓heldE_nil, ↓heldE_cons, qNil_pt, qPick_bool, qGrd_bool, qGrd_undef, ↓letK_def, pBox_eq, pBin_add, pBin_sub, pBin_mul, pBin_eql, pBin_neq, pBin_lss, pBin_leq, pBin_gtr, pBin_geq, pUn_not, pUn_neg, eqB, neB, eqS, neS, pExtract0, pExtract1, pExtract2, max_int, min_int, sz_nw, sz_wr, sz_drew, mm_nw, fz_nw, mm_drew, fz_drew, fz_wr, sz_mkS, mm_mkS, fz_mkS, Fr.mkS, mm_wr_same, mm_wr_ne, wr_wr, bs_oneT, splice_full, gt_zero, gt_succ, gt_set, gt_bs, byte_eq0, byte_eq1, byte_n0, byte_n1, Fr.refl, Fr.nw, Fr.wr, Fr.drew, e0, e1, e6, e9, e11, m1, g3, hpl]
        refine (fnumber_spec hnn).call ?_
        rintro _ w2 ⟨rfl, hf2⟩
        have hz1 := lt_of_fz z1
        have m2 : mm w2 (sz w + 1) = refC q := by rw [hf2.mm hz1 (by simp), m1]
        have z2 : fz w2 (sz w + 1) = false := by rw [hf2.fz hz1 (by simp), z1]
        have m20 : mm w2 (sz w) = z := by rw [hf2.mm (by omega) (by simp), hf1.mm (by omega) (by simp), hmW0]
        have z20 : fz w2 (sz w) = false := by rw [hf2.fz (by omega) (by simp), hf1.fz (by omega) (by simp), hzW0]
        have f2 := f1.trans0 hf2
        have hnum : placeM 8 0 B = (n, 8, 0) := by rw [Prod.ext_iff]; exact ⟨hfl, hp2⟩
        cases hpl2 : isPlace n with
        | true =>
          have hk : key (backB n) = n := by simpa [isPlace] using hpl2
          have hfl : floatM B = (backB n, 8, 0) := by unfold floatM; rw [hnum]; simp [hk]
          have hr2 : r.2 = (8, 0) := by rw [hpm, hfl]
          try simp (maxDischargeDepth := 8) [↓bindV_some, ↓bindU_some, ↓condE_true, ↓condE_false, ↓pickE_true, ↓pickE_false, ↓pickE_or, ↓pickE_and, ↓grdE_true, ↓grdE_false, ↓grdE_tf, ↓grdE_ft, ↓grdE_undef, ↓nilE_pt, ↓thenK_normal, ↓thenK_exit, ↓thenK_ret, ↓thenK_goto, ↓thenK_panic, ↓blockK_exit, ↓blockK_normal, ↓blockK_ret, ↓blockK_goto, ↓blockK_panic, ↓loopK_normal, ↓loopK_exit, ↓loopK_ret, ↓loopK_goto, ↓loopK_panic, ↓topK_ret, ↓topK_normal, ↓topK_panic, ↓resVs_nil, ↓resVs_tmp, ↓resVs_cell, tup_one, tup_nil, tup_two, put_get, argE_get, ↓takeE_def, ↓heldE_nil, ↓heldE_cons, qNil_pt, qPick_bool, qGrd_bool, qGrd_undef, ↓letK_def, pBox_eq, pBin_add, pBin_sub, pBin_mul, pBin_eql, pBin_neq, pBin_lss, pBin_leq, pBin_gtr, pBin_geq, pUn_not, pUn_neg, eqB, neB, eqS, neS, pExtract0, pExtract1, pExtract2, max_int, min_int, sz_nw, sz_wr, sz_drew, mm_nw, fz_nw, mm_drew, fz_drew, fz_wr, sz_mkS, mm_mkS, fz_mkS, Fr.mkS, mm_wr_same, mm_wr_ne, wr_wr, bs_oneT, splice_full, gt_zero, gt_succ, gt_set, gt_bs, byte_eq0, byte_eq1, byte_n0, byte_n1, Fr.refl, Fr.nw, Fr.wr, Fr.drew, e6, e9, m2, z2, m20, z20, hpl, hzl, ht6, hs6, refC_oneT]
          refine ⟨q, by rw [hr2]; rfl, fun _ => ?_, f2.wr (.inr (Nat.le_refl _)) _⟩
          rw [hq, hpm, hfl]
          simp [plain, zR, zP, k3, hk]
        | false =>
          have hk : ¬ key (backB n) = n := by simpa [isPlace] using hpl2
          have hfl : floatM B = (0, 8, 4) := by unfold floatM; rw [hnum]; simp [hk]
          have hr2 : r.2 = (8, 4) := by rw [hpm, hfl]
          try simp (maxDischargeDepth := 8) [↓bindV_some, ↓bindU_some, ↓condE_true, ↓condE_false, ↓pickE_true, ↓pickE_false, ↓pickE_or, ↓pickE_and, ↓grdE_true, ↓grdE_false, ↓grdE_tf, ↓grdE_ft, ↓grdE_undef, ↓nilE_pt, ↓thenK_normal, ↓thenK_exit, ↓thenK_ret, ↓thenK_goto, ↓thenK_panic, ↓blockK_exit, ↓blockK_normal, ↓blockK_ret, ↓blockK_goto, ↓blockK_panic, ↓loopK_normal, ↓loopK_exit, ↓loopK_ret, ↓loopK_goto, ↓loopK_panic, ↓topK_ret, ↓topK_normal, ↓topK_panic, ↓resVs_nil, ↓resVs_tmp, ↓resVs_cell, tup_one, tup_nil, tup_two, put_get, argE_get, ↓takeE_def, ↓heldE_nil, ↓heldE_cons, qNil_pt, qPick_bool, qGrd_bool, qGrd_undef, ↓letK_def, pBox_eq, pBin_add, pBin_sub, pBin_mul, pBin_eql, pBin_neq, pBin_lss, pBin_leq, pBin_gtr, pBin_geq, pUn_not, pUn_neg, eqB, neB, eqS, neS, pExtract0, pExtract1, pExtract2, max_int, min_int, sz_nw, sz_wr, sz_drew, mm_nw, fz_nw, mm_drew, fz_drew, fz_wr, sz_mkS, mm_mkS, fz_mkS, Fr.mkS, mm_wr_same, mm_wr_ne, wr_wr, bs_oneT, splice_full, gt_zero, gt_succ, gt_set, gt_bs, byte_eq0, byte_eq1, byte_n0, byte_n1, Fr.refl, Fr.nw, Fr.wr, Fr.drew, e6, e9, m2, z2, m20, z20, hpl, hzl, ht6, hs6, refC_oneT]
          exact ⟨q, by rw [hr2]; rfl, by rw [hr2]; simp, f2.wr (.inr (Nat.le_refl _)) _⟩
  by_cases k1 : kind = 117
  · have hpm : r = ({ zP kind with u := (num B).1 }, (num B).2.1, (num B).2.2) := by rw [hr]; unfold partM; rw [if_pos k1]
    have k1' : (kind = 117) = True := eq_true k1
    try simp (maxDischargeDepth := 8) [↓bindV_some, ↓bindU_some, ↓condE_true, ↓condE_false, ↓pickE_true, ↓pickE_false, ↓pickE_or, ↓pickE_and, ↓grdE_true, ↓grdE_false, ↓grdE_tf, ↓grdE_ft, ↓grdE_undef, ↓nilE_pt, ↓thenK_normal, ↓thenK_exit, ↓thenK_ret, ↓thenK_goto, ↓thenK_panic, ↓blockK_exit, ↓blockK_normal, ↓blockK_ret, ↓blockK_goto, ↓blockK_panic, ↓loopK_normal, ↓loopK_exit, ↓loopK_ret, ↓loopK_goto, ↓loopK_panic, ↓topK_ret, ↓topK_normal, ↓topK_panic, ↓resVs_nil, ↓resVs_tmp, ↓resVs_cell, tup_one, tup_nil, tup_two, put_get, argE_get, ↓takeE_def, ↓heldE_nil, ↓heldE_cons, qNil_pt, qPick_bool, qGrd_bool, qGrd_undef, ↓letK_def, pBox_eq, pBin_add, pBin_sub, pBin_mul, pBin_eql, pBin_neq, pBin_lss, pBin_leq, pBin_gtr, pBin_geq, pUn_not, pUn_neg, eqB, neB, eqS, neS, pExtract0, pExtract1, pExtract2, max_int, min_int, sz_nw, sz_wr, sz_drew, mm_nw, fz_nw, mm_drew, fz_drew, fz_wr, sz_mkS, mm_mkS, fz_mkS, Fr.mkS, mm_wr_same, mm_wr_ne, wr_wr, bs_oneT, splice_full, gt_zero, gt_succ, gt_set, gt_bs, byte_eq0, byte_eq1, byte_n0, byte_n1, Fr.refl, Fr.nw, Fr.wr, Fr.drew, k5, k3, k1', ki117, ki105, ki115, ki102, ki98]
    refine (fnum_spec hrW).call ?_
    rintro _ w2 ⟨rfl, hf⟩
    obtain ⟨q1, q2, q3, q4⟩ := keep hf
    by_cases hc : (num B).2.2 = 0
    · have hset : (refC (zR kind)).set 1 (u64 (num B).1) = refC { zR kind with u := (num B).1 } := rfl
      obtain ⟨q, hq⟩ : ∃ q : PartR, q = { zR kind with u := (num B).1 } := ⟨_, rfl⟩
      rw [← hq] at hset
      try simp (maxDischargeDepth := 8) [↓bindV_some, ↓bindU_some, ↓condE_true, ↓condE_false, ↓pickE_true, ↓pickE_false, ↓pickE_or, ↓pickE_and, ↓grdE_true, ↓grdE_false, ↓grdE_tf, ↓grdE_ft, ↓grdE_undef, ↓nilE_pt, ↓thenK_normal, ↓thenK_exit, ↓thenK_ret, ↓thenK_goto, ↓thenK_panic, ↓blockK_exit, ↓blockK_normal, ↓blockK_ret, ↓blockK_goto, ↓blockK_panic, ↓loopK_normal, ↓loopK_exit, ↓loopK_ret, ↓loopK_goto, ↓loopK_panic, ↓topK_ret, ↓topK_normal, ↓topK_panic, ↓resVs_nil, ↓resVs_tmp, ↓resVs_cell, tup_one, tup_nil, tup_two, put_get, argE_get, ↓takeE_def, ↓heldE_nil, ↓heldE_cons, qNil_pt, qPick_bool, qGrd_bool, qGrd_undef, ↓letK_def, pBox_eq, pBin_add, pBin_sub, pBin_mul, pBin_eql, pBin_neq, pBin_lss, pBin_leq, pBin_gtr, pBin_geq, pUn_not, pUn_neg, eqB, neB, eqS, neS, pExtract0, pExtract1, pExtract2, max_int, min_int, sz_nw, sz_wr, sz_drew, mm_nw, fz_nw, mm_drew, fz_drew, fz_wr, sz_mkS, mm_mkS, fz_mkS, Fr.mkS, mm_wr_same, mm_wr_ne, wr_wr, bs_oneT, splice_full, gt_zero, gt_succ, gt_set, gt_bs, byte_eq0, byte_eq1, byte_n0, byte_n1, Fr.refl, Fr.nw, Fr.wr, Fr.drew, hc, k1', ki117, q1, q2, q3, q4, hset, hpl, hzl, ht6, hs6, refC_oneT, n01, n10]
      refine ⟨q, by rw [hpm]; simp [hc], fun _ => ?_, fin1 q w2 hf⟩
      rw [hq, hpm]
      simp [plain, zR, zP, k1]
    · try simp (maxDischargeDepth := 8) [↓bindV_some, ↓bindU_some, ↓condE_true, ↓condE_false, ↓pickE_true, ↓pickE_false, ↓pickE_or, ↓pickE_and, ↓grdE_true, ↓grdE_false, ↓grdE_tf, ↓grdE_ft, ↓grdE_undef, ↓nilE_pt, ↓thenK_normal, ↓thenK_exit, ↓thenK_ret, ↓thenK_goto, ↓thenK_panic, ↓blockK_exit, ↓blockK_normal, ↓blockK_ret, ↓blockK_goto, ↓blockK_panic, ↓loopK_normal, ↓loopK_exit, ↓loopK_ret, ↓loopK_goto, ↓loopK_panic, ↓topK_ret, ↓topK_normal, ↓topK_panic, ↓resVs_nil, ↓resVs_tmp, ↓resVs_cell, tup_one, tup_nil, tup_two, put_get, argE_get, ↓takeE_def, ↓heldE_nil, ↓heldE_cons, qNil_pt, qPick_bool, qGrd_bool, qGrd_undef, ↓letK_def, pBox_eq, pBin_add, pBin_sub, pBin_mul, pBin_eql, pBin_neq, pBin_lss, pBin_leq, pBin_gtr, pBin_geq, pUn_not, pUn_neg, eqB, neB, eqS, neS, pExtract0, pExtract1, pExtract2, max_int, min_int, sz_nw, sz_wr, sz_drew, mm_nw, fz_nw, mm_drew, fz_drew, fz_wr, sz_mkS, mm_mkS, fz_mkS, Fr.mkS, mm_wr_same, mm_wr_ne, wr_wr, bs_oneT, splice_full, gt_zero, gt_succ, gt_set, gt_bs, byte_eq0, byte_eq1, byte_n0, byte_n1, Fr.refl, Fr.nw, Fr.wr, Fr.drew, hc, q1, q2, q3, q4, hpl, hzl, ht6, hs6, refC_oneT, n01, n10]
      exact ⟨zR kind, by rw [hpm], by rw [hpm]; exact fun h => absurd h hc, fin0 _ w2 hf⟩
  by_cases k2 : kind = 105
  · have hpm : r = ({ zP kind with i := zag (num B).1 }, (num B).2.1, (num B).2.2) := by rw [hr]; unfold partM; rw [if_neg k1, if_pos k2]
    have k2' : (kind = 105) = True := eq_true k2
    try simp (maxDischargeDepth := 8) [↓bindV_some, ↓bindU_some, ↓condE_true, ↓condE_false, ↓pickE_true, ↓pickE_false, ↓pickE_or, ↓pickE_and, ↓grdE_true, ↓grdE_false, ↓grdE_tf, ↓grdE_ft, ↓grdE_undef, ↓nilE_pt, ↓thenK_normal, ↓thenK_exit, ↓thenK_ret, ↓thenK_goto, ↓thenK_panic, ↓blockK_exit, ↓blockK_normal, ↓blockK_ret, ↓blockK_goto, ↓blockK_panic, ↓loopK_normal, ↓loopK_exit, ↓loopK_ret, ↓loopK_goto, ↓loopK_panic, ↓topK_ret, ↓topK_normal, ↓topK_panic, ↓resVs_nil, ↓resVs_tmp, ↓resVs_cell, tup_one, tup_nil, tup_two, put_get, argE_get, ↓takeE_def, ↓heldE_nil, ↓heldE_cons, qNil_pt, qPick_bool, qGrd_bool, qGrd_undef, ↓letK_def, pBox_eq, pBin_add, pBin_sub, pBin_mul, pBin_eql, pBin_neq, pBin_lss, pBin_leq, pBin_gtr, pBin_geq, pUn_not, pUn_neg, eqB, neB, eqS, neS, pExtract0, pExtract1, pExtract2, max_int, min_int, sz_nw, sz_wr, sz_drew, mm_nw, fz_nw, mm_drew, fz_drew, fz_wr, sz_mkS, mm_mkS, fz_mkS, Fr.mkS, mm_wr_same, mm_wr_ne, wr_wr, bs_oneT, splice_full, gt_zero, gt_succ, gt_set, gt_bs, byte_eq0, byte_eq1, byte_n0, byte_n1, Fr.refl, Fr.nw, Fr.wr, Fr.drew, k5, k3, k1, k2', ki117, ki105, ki115, ki102, ki98]
    refine (fnum_spec hrW).call ?_
    rintro _ w2 ⟨rfl, hf⟩
    obtain ⟨q1, q2, q3, q4⟩ := keep hf
    by_cases hc : (num B).2.2 = 0
    · have hnl := num_lt hc
      try simp (maxDischargeDepth := 8) [↓bindV_some, ↓bindU_some, ↓condE_true, ↓condE_false, ↓pickE_true, ↓pickE_false, ↓pickE_or, ↓pickE_and, ↓grdE_true, ↓grdE_false, ↓grdE_tf, ↓grdE_ft, ↓grdE_undef, ↓nilE_pt, ↓thenK_normal, ↓thenK_exit, ↓thenK_ret, ↓thenK_goto, ↓thenK_panic, ↓blockK_exit, ↓blockK_normal, ↓blockK_ret, ↓blockK_goto, ↓blockK_panic, ↓loopK_normal, ↓loopK_exit, ↓loopK_ret, ↓loopK_goto, ↓loopK_panic, ↓topK_ret, ↓topK_normal, ↓topK_panic, ↓resVs_nil, ↓resVs_tmp, ↓resVs_cell, tup_one, tup_nil, tup_two, put_get, argE_get, ↓takeE_def, ↓heldE_nil, ↓heldE_cons, qNil_pt, qPick_bool, qGrd_bool, qGrd_undef, ↓letK_def, pBox_eq, pBin_add, pBin_sub, pBin_mul, pBin_eql, pBin_neq, pBin_lss, pBin_leq, pBin_gtr, pBin_geq, pUn_not, pUn_neg, eqB, neB, eqS, neS, pExtract0, pExtract1, pExtract2, max_int, min_int, sz_nw, sz_wr, sz_drew, mm_nw, fz_nw, mm_drew, fz_drew, fz_wr, sz_mkS, mm_mkS, fz_mkS, Fr.mkS, mm_wr_same, mm_wr_ne, wr_wr, bs_oneT, splice_full, gt_zero, gt_succ, gt_set, gt_bs, byte_eq0, byte_eq1, byte_n0, byte_n1, Fr.refl, Fr.nw, Fr.wr, Fr.drew, hc, k1, k2', ki117, ki105]
      refine (fzag_spec hnl).call ?_
      rintro _ w3 ⟨rfl, hf3⟩
      have hf' := hf.trans0 hf3
      obtain ⟨q1, q2, q3, q4⟩ := keep hf'
      have hset : (refC (zR kind)).set 2 (i64 (zag (num B).1)) = refC { zR kind with i := zag (num B).1 } := rfl
      obtain ⟨q, hq⟩ : ∃ q : PartR, q = { zR kind with i := zag (num B).1 } := ⟨_, rfl⟩
      rw [← hq] at hset
      try simp (maxDischargeDepth := 8) [↓bindV_some, ↓bindU_some, ↓condE_true, ↓condE_false, ↓pickE_true, ↓pickE_false, ↓pickE_or, ↓pickE_and, ↓grdE_true, ↓grdE_false, ↓grdE_tf, ↓grdE_ft, ↓grdE_undef, ↓nilE_pt, ↓thenK_normal, ↓thenK_exit, ↓thenK_ret, ↓thenK_goto, ↓thenK_panic, ↓blockK_exit, ↓blockK_normal, ↓blockK_ret, ↓blockK_goto, ↓blockK_panic, ↓loopK_normal, ↓loopK_exit, ↓loopK_ret, ↓loopK_goto, ↓loopK_panic, ↓topK_ret, ↓topK_normal, ↓topK_panic, ↓resVs_nil, ↓resVs_tmp, ↓resVs_cell, tup_one, tup_nil, tup_two, put_get, argE_get, ↓takeE_def, ↓heldE_nil, ↓heldE_cons, qNil_pt, qPick_bool, qGrd_bool, qGrd_undef, ↓letK_def, pBox_eq, pBin_add, pBin_sub, pBin_mul, pBin_eql, pBin_neq, pBin_lss, pBin_leq, pBin_gtr, pBin_geq, pUn_not, pUn_neg, eqB, neB, eqS, neS, pExtract0, pExtract1, pExtract2, max_int, min_int, sz_nw, sz_wr, sz_drew, mm_nw, fz_nw, mm_drew, fz_drew, fz_wr, sz_mkS, mm_mkS, fz_mkS, Fr.mkS, mm_wr_same, mm_wr_ne, wr_wr, bs_oneT, splice_full, gt_zero, gt_succ, gt_set, gt_bs, byte_eq0, byte_eq1, byte_n0, byte_n1, Fr.refl, Fr.nw, Fr.wr, Fr.drew, hc, k1, k2', ki117, ki105, q1, q2, q3, q4, hset, hpl, hzl, ht6, hs6, refC_oneT, n01, n10]
      refine ⟨q, by rw [hpm]; simp [hc], fun _ => ?_, fin1 q w3 hf'⟩
      rw [hq, hpm]
      simp [plain, zR, zP, k2]
    · try simp (maxDischargeDepth := 8) [↓bindV_some, ↓bindU_some, ↓condE_true, ↓condE_false, ↓pickE_true, ↓pickE_false, ↓pickE_or, ↓pickE_and, ↓grdE_true, ↓grdE_false, ↓grdE_tf, ↓grdE_ft, ↓grdE_undef, ↓nilE_pt, ↓thenK_normal, ↓thenK_exit, ↓thenK_ret, ↓thenK_goto, ↓thenK_panic, ↓blockK_exit, ↓blockK_normal, ↓blockK_ret, ↓blockK_goto, ↓blockK_panic, ↓loopK_normal, ↓loopK_exit, ↓loopK_ret, ↓loopK_goto, ↓loopK_panic, ↓topK_ret, ↓topK_normal, ↓topK_panic, ↓resVs_nil, ↓resVs_tmp, ↓resVs_cell, tup_one, tup_nil, tup_two, put_get, argE_get, ↓takeE_def, ↓heldE_nil, ↓heldE_cons, qNil_pt, qPick_bool, qGrd_bool, qGrd_undef, ↓letK_def, pBox_eq, pBin_add, pBin_sub, pBin_mul, pBin_eql, pBin_neq, pBin_lss, pBin_leq, pBin_gtr, pBin_geq, pUn_not, pUn_neg, eqB, neB, eqS, neS, pExtract0, pExtract1, pExtract2, max_int, min_int, sz_nw, sz_wr, sz_drew, mm_nw, fz_nw, mm_drew, fz_drew, fz_wr, sz_mkS, mm_mkS, fz_mkS, Fr.mkS, mm_wr_same, mm_wr_ne, wr_wr, bs_oneT, splice_full, gt_zero, gt_succ, gt_set, gt_bs, byte_eq0, byte_eq1, byte_n0, byte_n1, Fr.refl, Fr.nw, Fr.wr, Fr.drew, hc, q1, q2, q3, q4, hpl, hzl, ht6, hs6, refC_oneT, n01, n10]
      exact ⟨zR kind, by rw [hpm], by rw [hpm]; exact fun h => absurd h hc, fin0 _ w2 hf⟩
  by_cases k4 : kind = 115
  · have hpm : r = ({ zP kind with s := (strM most B).1 }, (strM most B).2.1, (strM most B).2.2) := by rw [hr]; unfold partM; rw [if_neg k1, if_neg k2, if_neg k3, if_pos k4]
    have k4' : (kind = 115) = True := eq_true k4
    try simp (maxDischargeDepth := 8) [↓bindV_some, ↓bindU_some, ↓condE_true, ↓condE_false, ↓pickE_true, ↓pickE_false, ↓pickE_or, ↓pickE_and, ↓grdE_true, ↓grdE_false, ↓grdE_tf, ↓grdE_ft, ↓grdE_undef, ↓nilE_pt, ↓thenK_normal, ↓thenK_exit, ↓thenK_ret, ↓thenK_goto, ↓thenK_panic, ↓blockK_exit, ↓blockK_normal, ↓blockK_ret, ↓blockK_goto, ↓blockK_panic, ↓loopK_normal, ↓loopK_exit, ↓loopK_ret, ↓loopK_goto, ↓loopK_panic, ↓topK_ret, ↓topK_normal, ↓topK_panic, ↓resVs_nil, ↓resVs_tmp, ↓resVs_cell, tup_one, tup_nil, tup_two, put_get, argE_get, ↓takeE_def, ↓heldE_nil, ↓heldE_cons, qNil_pt, qPick_bool, qGrd_bool, qGrd_undef, ↓letK_def, pBox_eq, pBin_add, pBin_sub, pBin_mul, pBin_eql, pBin_neq, pBin_lss, pBin_leq, pBin_gtr, pBin_geq, pUn_not, pUn_neg, eqB, neB, eqS, neS, pExtract0, pExtract1, pExtract2, max_int, min_int, sz_nw, sz_wr, sz_drew, mm_nw, fz_nw, mm_drew, fz_drew, fz_wr, sz_mkS, mm_mkS, fz_mkS, Fr.mkS, mm_wr_same, mm_wr_ne, wr_wr, bs_oneT, splice_full, gt_zero, gt_succ, gt_set, gt_bs, byte_eq0, byte_eq1, byte_n0, byte_n1, Fr.refl, Fr.nw, Fr.wr, Fr.drew, k5, k3, k1, k2, k4', ki117, ki105, ki115, ki102, ki98]
    refine (fnum_spec hrW).call ?_
    rintro _ w2 ⟨rfl, hf⟩
    obtain ⟨q1, q2, q3, q4⟩ := keep hf
    by_cases hc : (num B).2.2 = 0
    · have hnl := num_lt hc
      have hnle := num_le B
      have hnpos := num_pos hc
      have hst : strM most B = if (max most 0).toNat < (num B).1 then ([], (num B).2.1, 3) else if B.length - (num B).2.1 < (num B).1 then ([], (num B).2.1, 2) else ((B.drop (num B).2.1).take (num B).1, (num B).2.1 + (num B).1, 0) := by
        unfold strM; simp [hc]
      rw [hst] at hpm
      generalize num B = nn at *
      obtain ⟨n, zz, cc⟩ := nn
      simp only at hc hnl hnle hnpos hpm ⊢
      subst hc
      obtain ⟨mq, hmq⟩ : ∃ mq : Nat, max most 0 = (mq : Int) := ⟨(max most 0).toNat, by omega⟩
      have hmt : (max most 0).toNat = mq := by omega
      rw [hmt] at hpm
      have hwq : IntKind.u64.wrap (mq : Int) = (mq : Int) := wrapu (by unfold H63; omega)
      obtain ⟨d, hd⟩ : ∃ d, d = B.length - zz := ⟨_, rfl⟩
      have hwd0 : IntKind.i64.wrap ((B.length : Int) - zz) = (d : Int) := wrap64 (by omega) (by omega) |>.trans (by omega)
      have hwd : IntKind.u64.wrap (d : Int) = (d : Int) := wrapu (by unfold H63; omega)
      rw [← hd] at hpm
      -- the two ways to say the bound
      have hb : ∀ (G : Prop), (∀ m0 : Int, m0 = (mq : Int) → ((most < 0) = True ∧ m0 = 0 ∨ (most < 0) = False ∧ m0 = most) → G) → G := fun G hG => by
        by_cases hneg : most < 0
        · exact hG 0 (by omega) (.inl ⟨eq_true hneg, rfl⟩)
        · exact hG most (by omega) (.inr ⟨eq_false hneg, rfl⟩)
      refine hb _ fun m0 hm0' hcase => ?_
      have hwm : IntKind.u64.wrap m0 = (mq : Int) := by rw [hm0', hwq]
      rcases hcase with ⟨ms, rfl⟩ | ⟨ms, rfl⟩
      all_goals
        by_cases hlong : mq < n
        · rw [if_pos hlong] at hpm
          try simp (maxDischargeDepth := 8) [↓bindV_some, ↓bindU_some, ↓condE_true, ↓condE_false, ↓pickE_true, ↓pickE_false, ↓pickE_or, ↓pickE_and, ↓grdE_true, ↓grdE_false, ↓grdE_tf, ↓grdE_ft, ↓grdE_undef, ↓nilE_pt, ↓thenK_normal, ↓thenK_exit, ↓thenK_ret, ↓thenK_goto, ↓thenK_panic, ↓blockK_exit, ↓blockK_normal, ↓blockK_ret, ↓blockK_goto, ↓blockK_panic, ↓loopK_normal, ↓loopK_exit, ↓loopK_ret, ↓loopK_goto, ↓loopK_panic, ↓topK_ret, ↓topK_normal, ↓topK_panic, ↓resVs_nil, ↓resVs_tmp, ↓resVs_cell, tup_one, tup_nil, tup_two, put_get, argE_get, ↓takeE_def, ↓heldE_nil, ↓heldE_cons, qNil_pt, qPick_bool, qGrd_bool, qGrd_undef, ↓letK_def, pBox_eq, pBin_add, pBin_sub, pBin_mul, pBin_eql, pBin_neq, pBin_lss, pBin_leq, pBin_gtr, pBin_geq, pUn_not, pUn_neg, eqB, neB, eqS, neS, pExtract0, pExtract1, pExtract2, max_int, min_int, sz_nw, sz_wr, sz_drew, mm_nw, fz_nw, mm_drew, fz_drew, fz_wr, sz_mkS, mm_mkS, fz_mkS, Fr.mkS, mm_wr_same, mm_wr_ne, wr_wr, bs_oneT, splice_full, gt_zero, gt_succ, gt_set, gt_bs, byte_eq0, byte_eq1, byte_n0, byte_n1, Fr.refl, Fr.nw, Fr.wr, Fr.drew, k1, k2, ki117, ki105, ms, hwm, hlong, q1, q2, q3, q4, hpl, hzl, ht6, hs6, refC_oneT, n01, n10]
          exact ⟨zR kind, by rw [hpm]; rfl, by rw [hpm]; simp, fin0 _ w2 hf⟩
        · rw [if_neg hlong] at hpm
          by_cases hshort : d < n
          · rw [if_pos hshort] at hpm
            subst hv
            try simp (maxDischargeDepth := 8) [↓bindV_some, ↓bindU_some, ↓condE_true, ↓condE_false, ↓pickE_true, ↓pickE_false, ↓pickE_or, ↓pickE_and, ↓grdE_true, ↓grdE_false, ↓grdE_tf, ↓grdE_ft, ↓grdE_undef, ↓nilE_pt, ↓thenK_normal, ↓thenK_exit, ↓thenK_ret, ↓thenK_goto, ↓thenK_panic, ↓blockK_exit, ↓blockK_normal, ↓blockK_ret, ↓blockK_goto, ↓blockK_panic, ↓loopK_normal, ↓loopK_exit, ↓loopK_ret, ↓loopK_goto, ↓loopK_panic, ↓topK_ret, ↓topK_normal, ↓topK_panic, ↓resVs_nil, ↓resVs_tmp, ↓resVs_cell, tup_one, tup_nil, tup_two, put_get, argE_get, ↓takeE_def, ↓heldE_nil, ↓heldE_cons, qNil_pt, qPick_bool, qGrd_bool, qGrd_undef, ↓letK_def, pBox_eq, pBin_add, pBin_sub, pBin_mul, pBin_eql, pBin_neq, pBin_lss, pBin_leq, pBin_gtr, pBin_geq, pUn_not, pUn_neg, eqB, neB, eqS, neS, pExtract0, pExtract1, pExtract2, max_int, min_int, sz_nw, sz_wr, sz_drew, mm_nw, fz_nw, mm_drew, fz_drew, fz_wr, sz_mkS, mm_mkS, fz_mkS, Fr.mkS, mm_wr_same, mm_wr_ne, wr_wr, bs_oneT, splice_full, gt_zero, gt_succ, gt_set, gt_bs, byte_eq0, byte_eq1, byte_n0, byte_n1, Fr.refl, Fr.nw, Fr.wr, Fr.drew, k1, k2, ki117, ki105, ms, hwm, hlong, hwd0, hwd, hshort, q1, q2, q3, q4, hpl, hzl, ht6, hs6, refC_oneT, n01, n10]
            exact ⟨zR kind, by rw [hpm]; rfl, by rw [hpm]; simp, fin0 _ w2 hf⟩
          · rw [if_neg hshort] at hpm
            rcases id (hrW.fr0 hf) with ⟨_, _, _, h0, _⟩ | ⟨ab, ao, ac, hv', hac, _⟩
            · omega
            · have hrd2 := hrW.fr0 hf
              rw [hv'] at hrd2
              have hsub := rd_sub hrd2 rfl (lo := zz) (hi := zz + n) (by omega) (by omega)
              have e1 : zz + n - zz = n := by omega
              rw [e1] at hsub
              obtain ⟨S, hS⟩ : ∃ S : Value, S = .slice (some ⟨ab, if ac = zz then ao else ao + zz * 1, none⟩) n (ac - zz) := ⟨_, rfl⟩
              rw [← hS] at hsub
              have hwn : IntKind.i64.wrap (n : Int) = (n : Int) := wrap64 (by omega) (by omega)
              obtain ⟨t, ht⟩ : ∃ t : Int, t = ((zz + n : Nat) : Int) := ⟨_, rfl⟩
              have hws : IntKind.i64.wrap ((zz : Int) + n) = t := wrap64 (by omega) (by omega) |>.trans (by omega)
              have hsl : ∀ w, pSlice P 40 v (some (i64 zz)) (some (i64 t)) none w = some (S, w) := fun w => by
                rw [hv', slB40 (by omega) (by omega) (by omega) hac, hS]
                have e2 : ((zz : Nat) : Int).toNat = zz := by omega
                have e3 : t.toNat = zz + n := by omega
                rw [e2, e3, e1]
              have hcs : pConv P 40 9 S w2 = some (strB ((B.drop zz).take n), w2) := conv_str sliceE40 intK5 und9 hsub
              have hset : (refC (zR kind)).set 4 (strB ((B.drop zz).take n)) = refC { zR kind with s := (B.drop zz).take n } := rfl
              obtain ⟨q, hq⟩ : ∃ q : PartR, q = { zR kind with s := (B.drop zz).take n } := ⟨_, rfl⟩
              rw [← hq] at hset
              have hlv : pBuiltin P .len #[40] 3 [v] w2 = some (i64 B.length, w2) := by rw [hv']; exact len40
              try simp (maxDischargeDepth := 8) [↓bindV_some, ↓bindU_some, ↓condE_true, ↓condE_false, ↓pickE_true, ↓pickE_false, ↓pickE_or, ↓pickE_and, ↓grdE_true, ↓grdE_false, ↓grdE_tf, ↓grdE_ft, ↓grdE_undef, ↓nilE_pt, ↓thenK_normal, ↓thenK_exit, ↓thenK_ret, ↓thenK_goto, ↓thenK_panic, ↓blockK_exit, ↓blockK_normal, ↓blockK_ret, ↓blockK_goto, ↓blockK_panic, ↓loopK_normal, ↓loopK_exit, ↓loopK_ret, ↓loopK_goto, ↓loopK_panic, ↓topK_ret, ↓topK_normal, ↓topK_panic, ↓resVs_nil, ↓resVs_tmp, ↓resVs_cell, tup_one, tup_nil, tup_two, put_get, argE_get, ↓takeE_def, ↓heldE_nil, ↓heldE_cons, qNil_pt, qPick_bool, qGrd_bool, qGrd_undef, ↓letK_def, pBox_eq, pBin_add, pBin_sub, pBin_mul, pBin_eql, pBin_neq, pBin_lss, pBin_leq, pBin_gtr, pBin_geq, pUn_not, pUn_neg, eqB, neB, eqS, neS, pExtract0, pExtract1, pExtract2, max_int, min_int, sz_nw, sz_wr, sz_drew, mm_nw, fz_nw, mm_drew, fz_drew, fz_wr, sz_mkS, mm_mkS, fz_mkS, Fr.mkS, mm_wr_same, mm_wr_ne, wr_wr, bs_oneT, splice_full, gt_zero, gt_succ, gt_set, gt_bs, byte_eq0, byte_eq1, byte_n0, byte_n1, Fr.refl, Fr.nw, Fr.wr, Fr.drew, k1, k2, ki117, ki105, ms, hwm, hlong, hlv, hwd0, hwd, hshort, hwn, hws, hsl, hcs, hset, q1, q2, q3, q4, hpl, hzl, ht6, hs6, refC_oneT, n01, n10]
              refine ⟨q, by rw [hpm]; simp [ht], fun _ => ?_, fin1 q w2 hf⟩
              rw [hq, hpm]
              simp [plain, zR, zP, k4]
    · try simp (maxDischargeDepth := 8) [↓bindV_some, ↓bindU_some, ↓condE_true, ↓condE_false, ↓pickE_true, ↓pickE_false, ↓pickE_or, ↓pickE_and, ↓grdE_true, ↓grdE_false, ↓grdE_tf, ↓grdE_ft, ↓grdE_undef, ↓nilE_pt, ↓thenK_normal, ↓thenK_exit, ↓thenK_ret, ↓thenK_goto, ↓thenK_panic, ↓blockK_exit, ↓blockK_normal, ↓blockK_ret, ↓blockK_goto, ↓blockK_panic, ↓loopK_normal, ↓loopK_exit, ↓loopK_ret, ↓loopK_goto, ↓loopK_panic, ↓topK_ret, ↓topK_normal, ↓topK_panic, ↓resVs_nil, ↓resVs_tmp, ↓resVs_cell, tup_one, tup_nil, tup_two, put_get, argE_get, ↓takeE_def, ↓heldE_nil, ↓heldE_cons, qNil_pt, qPick_bool, qGrd_bool, qGrd_undef, ↓letK_def, pBox_eq, pBin_add, pBin_sub, pBin_mul, pBin_eql, pBin_neq, pBin_lss, pBin_leq, pBin_gtr, pBin_geq, pUn_not, pUn_neg, eqB, neB, eqS, neS, pExtract0, pExtract1, pExtract2, max_int, min_int, sz_nw, sz_wr, sz_drew, mm_nw, fz_nw, mm_drew, fz_drew, fz_wr, sz_mkS, mm_mkS, fz_mkS, Fr.mkS, mm_wr_same, mm_wr_ne, wr_wr, bs_oneT, splice_full, gt_zero, gt_succ, gt_set, gt_bs, byte_eq0, byte_eq1, byte_n0, byte_n1, Fr.refl, Fr.nw, Fr.wr, Fr.drew, hc, q1, q2, q3, q4, hpl, hzl, ht6, hs6, refC_oneT, n01, n10]
      have hst : strM most B = ([], (num B).2.1, (num B).2.2) := by unfold strM; simp [hc]
      exact ⟨zR kind, by rw [hpm, hst], by rw [hpm, hst]; exact fun h => absurd h hc, fin0 _ w2 hf⟩
  · have hpm : r = (zP kind, 0, 5) := by rw [hr]; unfold partM; rw [if_neg k1, if_neg k2, if_neg k3, if_neg k4, if_neg k5]
    try simp (maxDischargeDepth := 8) [↓bindV_some, ↓bindU_some, ↓condE_true, ↓condE_false, ↓pickE_true, ↓pickE_false, ↓pickE_or, ↓pickE_and, ↓grdE_true, ↓grdE_false, ↓grdE_tf, ↓grdE_ft, ↓grdE_undef, ↓nilE_pt, ↓thenK_normal, ↓thenK_exit, ↓thenK_ret, ↓thenK_goto, ↓thenK_panic, ↓blockK_exit, ↓blockK_normal, ↓blockK_ret, ↓blockK_goto, ↓blockK_panic, ↓loopK_normal, ↓loopK_exit, ↓loopK_ret, ↓loopK_goto, ↓loopK_panic, ↓topK_ret, ↓topK_normal, ↓topK_panic, ↓resVs_nil, ↓resVs_tmp, ↓resVs_cell, tup_one, tup_nil, tup_two, put_get, argE_get, ↓takeE_def, ↓heldE_nil, ↓heldE_cons, qNil_pt, qPick_bool, qGrd_bool, qGrd_undef, ↓letK_def, pBox_eq, pBin_add, pBin_sub, pBin_mul, pBin_eql, pBin_neq, pBin_lss, pBin_leq, pBin_gtr, pBin_geq, pUn_not, pUn_neg, eqB, neB, eqS, neS, pExtract0, pExtract1, pExtract2, max_int, min_int, sz_nw, sz_wr, sz_drew, mm_nw, fz_nw, mm_drew, fz_drew, fz_wr, sz_mkS, mm_mkS, fz_mkS, Fr.mkS, mm_wr_same, mm_wr_ne, wr_wr, bs_oneT, splice_full, gt_zero, gt_succ, gt_set, gt_bs, byte_eq0, byte_eq1, byte_n0, byte_n1, Fr.refl, Fr.nw, Fr.wr, Fr.drew, k5, k3, k1, k2, k4, ki117, ki105, ki115, ki102, ki98, hmW, hzW, hmW0, hzW0, hpl, hzl, ht6, hs6, refC_oneT, n01, n10]
    exact ⟨zR kind, by rw [hpm]; rfl, by rw [hpm]; simp, fin0 _ W (Fr.refl _ _)⟩
end Go.Proofs.Ytfmcplkijjndlaa
