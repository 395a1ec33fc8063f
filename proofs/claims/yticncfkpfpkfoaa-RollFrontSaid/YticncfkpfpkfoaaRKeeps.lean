/- RollKeeps: the law. -/
import Derived.Test.YticncfkpfpkfoaaRKeeps0
set_option linter.unusedVariables false
set_option linter.unusedSimpArgs false
namespace Go.Proofs.Yticncfkpfpkfoaa
open Go

def tot (Lp : List (List UInt8 × Value)) : Nat := total (Lp.map (·.1))
def KpS (w : World) (L : List (List UInt8 × Value)) (v : Value) (N r b cb j jb : Nat) (e : Env) (w' : World) : Prop :=
  ∃ (Lp : List (List UInt8 × Value)) (F : List Nat) (D : DD) (wv : Value),
    Fr [] w w' ∧ IsD w' b D F ∧ (∀ k ∈ F, sz w ≤ k ∧ k ≠ cb) ∧ IsRoll w' r b ((0 : Nat) : Int) (N : Int) ((tot Lp : Nat) : Int) ∧ r ∉ F ∧ CalmN N D ∧ Laid D 0 N (Lp.map (·.1)) (N - tot Lp) ∧
    D.pend.length ≤ 64 * jb ∧ D.writes ≤ N + 64 * jb ∧ mm w' cb = [i64 0, i64 N] ∧ fz w' cb = false ∧
    w'.ownsRow (sz w) 22 1 wv Lp.length (Lp.map (·.2)) ∧ (∀ c, wv.ownBlock = some c → c ∉ F ∧ c ≠ cb ∧ c ≠ r) ∧ (∀ p ∈ Lp, p ∈ L) ∧ (∀ p ∈ Lp, p.1.length ≤ 3840) ∧ Lp.length ≤ jb ∧
    e 0 = i64 N ∧ e 5 = pt b 0 ∧ e 7 = pt cb 0 ∧ e 8 = pt r 0 ∧ e 11 = wv ∧ e 12 = i64 ((N - tot Lp : Nat) : Int) ∧ e 57 = v ∧ e 58 = i64 L.length ∧ e 59 = i64 j
def KpI (w : World) (L : List (List UInt8 × Value)) (v : Value) (N r b cb : Nat) (m : Nat) (e : Env) (w' : World) : Prop :=
  ∃ j, m = L.length - j ∧ j ≤ L.length ∧ KpS w L v N r b cb j j e w'
theorem keep_step {w : World} {L : List (List UInt8 × Value)} {v : Value} {N r b cb : Nat} (hv : IsE w v L) (hbig : bigM L) (hN1 : 1 ≤ N) (hN : N ≤ 200) (hr : sz w ≤ r) (hcb : sz w ≤ cb) (hrc : r ≠ cb) {m : Nat} {e : Env} {w1 : World}
    (hI : KpI w L v N r b cb m e w1) {K : KT} (hN' : ∀ m' e' w', m' < m → KpI w L v N r b cb m' e' w' → K .normal e' w') (hX : ∀ e' w', KpI w L v N r b cb 0 e' w' → K (.exit 0) e' w') : F14B0 e w1 K := by
  obtain ⟨j, hm, hj, Lp, F, D, wv, hf, hd, hF, hro, hrF, hc, hlaid, hpl, hwl, m4, z4, hown, hwv, hsub, hshort, hLl, e0, e5, e7, e8, e11, e12, e57, e58, e59⟩ := hI
  subst hm
  obtain ⟨hb1, hb2⟩ := hbig
  unfold F14B0
  have htot : tot Lp + (N - tot Lp) = N := hlaid.1
  have htotle : tot Lp ≤ N := by omega
  by_cases hjl : j < L.length
  · have hl1 : (j < L.length) = True := eq_true hjl
    have hl2 : ((j : Int) < L.length) = True := eq_true (by omega)
    obtain ⟨p, hp⟩ : ∃ p, L[j]? = some p := ⟨_, List.getElem?_eq_getElem hjl⟩
    have hpm := List.mem_of_getElem? hp
    have hp5 := hb2 p hpm
    obtain ⟨pb, po, pc, hv2, hin, hgp⟩ := (hv.fr0 hf).at hp
    have hia : ∀ w', pIndexAddr P 67 v (i64 j) w' = some (pt pb (po + j), w') := fun w' => by
      rw [hv2]
      have := ia67 (w := w') (b := pb) (o := po) (n := L.length) (c := pc) (k := .i64) (j := (j : Int)) (by omega) (by omega)
      rw [this]; simp
    have hlp : pLoad P 22 (pt pb (po + j)) w1 = some (p.2, w1) := by rw [ld22 hin, hgp]
    obtain ⟨pa, pcc, hpv⟩ := sl_of (hv.el p hpm)
    have hlpp : ∀ w, pBuiltin P .len #[22] 3 [p.2] w = some (i64 p.1.length, w) := fun w => by rw [hpv]; exact len22
    have hw1 : IntKind.i64.wrap ((j : Int) + 1) = ((j + 1 : Nat) : Int) := wrap64 (by omega) (by omega)
    try simp (maxDischargeDepth := 8) [↓bindV_some, ↓bindU_some, ↓condE_true, ↓condE_false, ↓pickE_true, ↓pickE_false, ↓pickE_or, ↓pickE_and, ↓grdE_true, ↓grdE_false, ↓grdE_tf, ↓grdE_ft, ↓grdE_undef, ↓nilE_pt, ↓thenK_normal, ↓thenK_exit, ↓thenK_ret, ↓thenK_goto, ↓thenK_panic, ↓blockK_exit, ↓blockK_normal, ↓blockK_ret, ↓blockK_goto, ↓blockK_panic, ↓loopK_normal, ↓loopK_exit, ↓loopK_ret, ↓loopK_goto, ↓loopK_panic, ↓topK_ret, ↓topK_normal, ↓topK_panic, ↓resVs_nil, ↓resVs_tmp, ↓resVs_cell, tup_one, tup_nil, tup_two, put_get, argE_get, ↓takeE_def, ↓heldE_nil, ↓heldE_cons, qNil_pt, qPick_bool, qGrd_bool, qGrd_undef, ↓letK_def, pBox_eq, pBin_add, pBin_sub, pBin_mul, pBin_eql, pBin_neq, pBin_lss, pBin_leq, pBin_gtr, pBin_geq, pUn_not, pUn_neg, eqB, neB, eqS, neS, pExtract0, pExtract1, pExtract2, max_int, min_int, sz_nw, sz_wr, sz_drew, mm_nw, fz_nw, mm_drew, fz_drew, fz_wr, sz_mkS, mm_mkS, fz_mkS, Fr.mkS, mm_wr_same, mm_wr_ne, wr_wr, bs_oneT, splice_full, gt_zero, gt_succ, gt_set, gt_bs, byte_eq0, byte_eq1, byte_n0, byte_n1, Fr.refl, Fr.nw, Fr.wr, Fr.drew, letK_def, e57, e58, e59, hl1, hl2, hia, hlp, hlpp, -ld22]
    refine (refNeed_spec (n := p.1.length) (by omega)).call ?_
    rintro _ w2 ⟨rfl, f2⟩
    have hel2 := (hv.el p hpm).fr0 (hf.trans0 f2)
    have hro2 := hro.fr f2 (by simp)
    have hpF : 0 < p.1.length → ∀ k, p.2.ownBlock = some k → k ∉ F := fun h0 k hk hkF => by
      have := rd_old (hv.el p hpm) h0 hk
      have := (hF k hkF).1
      omega
    have hap := append_spec (fr := 0) (ln := N) (at_ := tot Lp) (B := p.1) hro2 (hd.fr0 f2) hrF hel2 hpF hp5 (by omega) htotle (by omega) (by omega)
    try simp (maxDischargeDepth := 8) [↓bindV_some, ↓bindU_some, ↓condE_true, ↓condE_false, ↓pickE_true, ↓pickE_false, ↓pickE_or, ↓pickE_and, ↓grdE_true, ↓grdE_false, ↓grdE_tf, ↓grdE_ft, ↓grdE_undef, ↓nilE_pt, ↓thenK_normal, ↓thenK_exit, ↓thenK_ret, ↓thenK_goto, ↓thenK_panic, ↓blockK_exit, ↓blockK_normal, ↓blockK_ret, ↓blockK_goto, ↓blockK_panic, ↓loopK_normal, ↓loopK_exit, ↓loopK_ret, ↓loopK_goto, ↓loopK_panic, ↓topK_ret, ↓topK_normal, ↓topK_panic, ↓resVs_nil, ↓resVs_tmp, ↓resVs_cell, tup_one, tup_nil, tup_two, put_get, argE_get, ↓takeE_def, ↓heldE_nil, ↓heldE_cons, qNil_pt, qPick_bool, qGrd_bool, qGrd_undef, ↓letK_def, pBox_eq, pBin_add, pBin_sub, pBin_mul, pBin_eql, pBin_neq, pBin_lss, pBin_leq, pBin_gtr, pBin_geq, pUn_not, pUn_neg, eqB, neB, eqS, neS, pExtract0, pExtract1, pExtract2, max_int, min_int, sz_nw, sz_wr, sz_drew, mm_nw, fz_nw, mm_drew, fz_drew, fz_wr, sz_mkS, mm_mkS, fz_mkS, Fr.mkS, mm_wr_same, mm_wr_ne, wr_wr, bs_oneT, splice_full, gt_zero, gt_succ, gt_set, gt_bs, byte_eq0, byte_eq1, byte_n0, byte_n1, Fr.refl, Fr.nw, Fr.wr, Fr.drew, e8]
    refine hap.call ?_
    rintro x w3 ⟨F3, hA⟩
    have hx := hA.val
    subst hx
    have hF3 : ∀ k ∈ F3, sz w ≤ k ∧ k ≠ cb := fun k hk => by
      rcases hA.new k hk with h | h
      · exact hF k h
      · have := (hf.trans0 f2).size; have := f2.lt (lt_of_fz z4); omega
    have hcbn : cb ∉ r :: F := fun hk => by
      rcases List.mem_cons.1 hk with h | h
      · exact hrc h.symm
      · exact (hF _ h).2 rfl
    have g3 : Fr [] w w3 := (hf.trans0 f2).trans hA.fr' (fun k hk => .inr (by
      rcases List.mem_cons.1 hk with h | h
      · omega
      · exact (hF k h).1))
    have z3 : fz w3 cb = false := by rw [hA.fr'.fz (f2.lt (lt_of_fz z4)) hcbn, f2.fz (lt_of_fz z4) (by simp), z4]
    have m3 : mm w3 cb = [i64 0, i64 N] := by rw [hA.fr'.mm (f2.lt (lt_of_fz z4)) hcbn, f2.mm (lt_of_fz z4) (by simp), m4]
    have hown3 := own_fr (own_fr hown f2 (by simp)) hA.fr' (fun c hc hk => by
      rcases List.mem_cons.1 hk with h | h
      · exact (hwv c hc).2.2 h
      · exact (hwv c hc).1 h)
    have hwv3 : ∀ c, wv.ownBlock = some c → c ∉ F3 ∧ c ≠ cb ∧ c ≠ r := fun c hc => by
      refine ⟨fun hk => ?_, (hwv c hc).2⟩
      rcases hA.new c hk with h | h
      · exact (hwv c hc).1 h
      · have := (own_lt hown c hc).2; have := f2.size; omega
    obtain ⟨nd, hnd⟩ : ∃ nd, nd = need p.1.length := ⟨_, rfl⟩
    obtain ⟨lf, hlf⟩ : ∃ lf, lf = N - tot Lp := ⟨_, rfl⟩
    rw [← hlf] at e12
    -- the state is as it was
    have asit : ∀ (code : Int) (e' : Env), appM 0 N (tot Lp) p.1 D = (D, code, tot Lp) → e' 0 = i64 N → e' 5 = pt b 0 → e' 7 = pt cb 0 → e' 8 = pt r 0 → e' 11 = wv → e' 12 = i64 (lf : Int) → e' 57 = v → e' 58 = i64 L.length → e' 59 = i64 j →
        KpS w L v N r b cb j (j + 1) e' w3 := fun code e' hG a0 a5 a7 a8 a11 a12 a57 a58 a59 => by
      have h1 := hA.isd
      have h2 := hA.roll
      rw [hG] at h1 h2
      exact ⟨Lp, F3, D, wv, g3, h1, hF3, h2, hA.out, hc, hlaid, by omega, by omega, m3, z3, hown3, hwv3, hsub, hshort, by omega, a0, a5, a7, a8, a11, by rw [a12, hlf], a57, a58, a59⟩
    obtain ⟨code, hcode⟩ : ∃ code, code = (appM 0 N (tot Lp) p.1 D).2.1 := ⟨_, rfl⟩
    rw [← hcode]
    try simp (maxDischargeDepth := 8) [↓bindV_some, ↓bindU_some, ↓condE_true, ↓condE_false, ↓pickE_true, ↓pickE_false, ↓pickE_or, ↓pickE_and, ↓grdE_true, ↓grdE_false, ↓grdE_tf, ↓grdE_ft, ↓grdE_undef, ↓nilE_pt, ↓thenK_normal, ↓thenK_exit, ↓thenK_ret, ↓thenK_goto, ↓thenK_panic, ↓blockK_exit, ↓blockK_normal, ↓blockK_ret, ↓blockK_goto, ↓blockK_panic, ↓loopK_normal, ↓loopK_exit, ↓loopK_ret, ↓loopK_goto, ↓loopK_panic, ↓topK_ret, ↓topK_normal, ↓topK_panic, ↓resVs_nil, ↓resVs_tmp, ↓resVs_cell, tup_one, tup_nil, tup_two, put_get, argE_get, ↓takeE_def, ↓heldE_nil, ↓heldE_cons, qNil_pt, qPick_bool, qGrd_bool, qGrd_undef, ↓letK_def, pBox_eq, pBin_add, pBin_sub, pBin_mul, pBin_eql, pBin_neq, pBin_lss, pBin_leq, pBin_gtr, pBin_geq, pUn_not, pUn_neg, eqB, neB, eqS, neS, pExtract0, pExtract1, pExtract2, max_int, min_int, sz_nw, sz_wr, sz_drew, mm_nw, fz_nw, mm_drew, fz_drew, fz_wr, sz_mkS, mm_mkS, fz_mkS, Fr.mkS, mm_wr_same, mm_wr_ne, wr_wr, bs_oneT, splice_full, gt_zero, gt_succ, gt_set, gt_bs, byte_eq0, byte_eq1, byte_n0, byte_n1, Fr.refl, Fr.nw, Fr.wr, Fr.drew, letK_def, hlpp]
    refine condE_join (M := fun e' w' => KpS w L v N r b cb j (j + 1) e' w') ?_ ?_ ?_
    · intro hk K' hK'
      have hlong : 3840 < p.1.length := by have := of_decide_eq_true hk; omega
      have hG := appM_long (fr := 0) (ln := N) (at_ := tot Lp) (B := p.1) hc.down hlong
      rw [hG] at hcode
      simp only at hcode
      subst hcode
      try simp (maxDischargeDepth := 8) [↓bindV_some, ↓bindU_some, ↓condE_true, ↓condE_false, ↓pickE_true, ↓pickE_false, ↓pickE_or, ↓pickE_and, ↓grdE_true, ↓grdE_false, ↓grdE_tf, ↓grdE_ft, ↓grdE_undef, ↓nilE_pt, ↓thenK_normal, ↓thenK_exit, ↓thenK_ret, ↓thenK_goto, ↓thenK_panic, ↓blockK_exit, ↓blockK_normal, ↓blockK_ret, ↓blockK_goto, ↓blockK_panic, ↓loopK_normal, ↓loopK_exit, ↓loopK_ret, ↓loopK_goto, ↓loopK_panic, ↓topK_ret, ↓topK_normal, ↓topK_panic, ↓resVs_nil, ↓resVs_tmp, ↓resVs_cell, tup_one, tup_nil, tup_two, put_get, argE_get, ↓takeE_def, ↓heldE_nil, ↓heldE_cons, qNil_pt, qPick_bool, qGrd_bool, qGrd_undef, ↓letK_def, pBox_eq, pBin_add, pBin_sub, pBin_mul, pBin_eql, pBin_neq, pBin_lss, pBin_leq, pBin_gtr, pBin_geq, pUn_not, pUn_neg, eqB, neB, eqS, neS, pExtract0, pExtract1, pExtract2, max_int, min_int, sz_nw, sz_wr, sz_drew, mm_nw, fz_nw, mm_drew, fz_drew, fz_wr, sz_mkS, mm_mkS, fz_mkS, Fr.mkS, mm_wr_same, mm_wr_ne, wr_wr, bs_oneT, splice_full, gt_zero, gt_succ, gt_set, gt_bs, byte_eq0, byte_eq1, byte_n0, byte_n1, Fr.refl, Fr.nw, Fr.wr, Fr.drew]
      exact hK' _ _ (asit 3 _ hG (by simp [put_get, e0]) (by simp [put_get, e5]) (by simp [put_get, e7]) (by simp [put_get, e8]) (by simp [put_get, e11]) (by simp [put_get, e12]) (by simp [put_get, e57]) (by simp [put_get, e58]) (by simp [put_get, e59]))
    · intro hk K' hK'
      have hlong : ¬ 3840 < p.1.length := by have := of_decide_eq_false hk; omega
      by_cases hfull : lf < nd
      · have hG := appM_full (fr := 0) (ln := N) (at_ := tot Lp) (B := p.1) (D := D) hc.down (by omega) htotle (by omega)
        rw [hG] at hcode
        simp only at hcode
        subst hcode
        have c1 : ((lf : Int) < (nd : Int)) = True := eq_true (by omega)
        have c2 : (lf < nd) = True := eq_true hfull
        try simp (maxDischargeDepth := 8) [↓bindV_some, ↓bindU_some, ↓condE_true, ↓condE_false, ↓pickE_true, ↓pickE_false, ↓pickE_or, ↓pickE_and, ↓grdE_true, ↓grdE_false, ↓grdE_tf, ↓grdE_ft, ↓grdE_undef, ↓nilE_pt, ↓thenK_normal, ↓thenK_exit, ↓thenK_ret, ↓thenK_goto, ↓thenK_panic, ↓blockK_exit, ↓blockK_normal, ↓blockK_ret, ↓blockK_goto, ↓blockK_panic, ↓loopK_normal, ↓loopK_exit, ↓loopK_ret, ↓loopK_goto, ↓loopK_panic, ↓topK_ret, ↓topK_normal, ↓topK_panic, ↓resVs_nil, ↓resVs_tmp, ↓resVs_cell, tup_one, tup_nil, tup_two, put_get, argE_get, ↓takeE_def, ↓heldE_nil, ↓heldE_cons, qNil_pt, qPick_bool, qGrd_bool, qGrd_undef, ↓letK_def, pBox_eq, pBin_add, pBin_sub, pBin_mul, pBin_eql, pBin_neq, pBin_lss, pBin_leq, pBin_gtr, pBin_geq, pUn_not, pUn_neg, eqB, neB, eqS, neS, pExtract0, pExtract1, pExtract2, max_int, min_int, sz_nw, sz_wr, sz_drew, mm_nw, fz_nw, mm_drew, fz_drew, fz_wr, sz_mkS, mm_mkS, fz_mkS, Fr.mkS, mm_wr_same, mm_wr_ne, wr_wr, bs_oneT, splice_full, gt_zero, gt_succ, gt_set, gt_bs, byte_eq0, byte_eq1, byte_n0, byte_n1, Fr.refl, Fr.nw, Fr.wr, Fr.drew, ← hnd, e12, c1, c2]
        exact hK' _ _ (asit 8 _ hG (by simp [put_get, e0]) (by simp [put_get, e5]) (by simp [put_get, e7]) (by simp [put_get, e8]) (by simp [put_get, e11]) (by simp [put_get, e12]) (by simp [put_get, e57]) (by simp [put_get, e58]) (by simp [put_get, e59]))
      · obtain ⟨D', hG, hc', hv', hpl', hwl', hfi'⟩ := appM_ok (N := N) (fr := 0) (ln := N) (at_ := tot Lp) (B := p.1) hc (by omega) (by omega) (by omega)
        rw [hG] at hcode
        simp only at hcode
        subst hcode
        have hdA := hA.isd
        have hroA := hA.roll
        rw [hG] at hdA hroA
        simp only at hdA hroA
        have c1 : ((lf : Int) < (nd : Int)) = False := eq_false (by omega)
        have c2 : (lf < nd) = False := eq_false hfull
        try simp (maxDischargeDepth := 8) [↓bindV_some, ↓bindU_some, ↓condE_true, ↓condE_false, ↓pickE_true, ↓pickE_false, ↓pickE_or, ↓pickE_and, ↓grdE_true, ↓grdE_false, ↓grdE_tf, ↓grdE_ft, ↓grdE_undef, ↓nilE_pt, ↓thenK_normal, ↓thenK_exit, ↓thenK_ret, ↓thenK_goto, ↓thenK_panic, ↓blockK_exit, ↓blockK_normal, ↓blockK_ret, ↓blockK_goto, ↓blockK_panic, ↓loopK_normal, ↓loopK_exit, ↓loopK_ret, ↓loopK_goto, ↓loopK_panic, ↓topK_ret, ↓topK_normal, ↓topK_panic, ↓resVs_nil, ↓resVs_tmp, ↓resVs_cell, tup_one, tup_nil, tup_two, put_get, argE_get, ↓takeE_def, ↓heldE_nil, ↓heldE_cons, qNil_pt, qPick_bool, qGrd_bool, qGrd_undef, ↓letK_def, pBox_eq, pBin_add, pBin_sub, pBin_mul, pBin_eql, pBin_neq, pBin_lss, pBin_leq, pBin_gtr, pBin_geq, pUn_not, pUn_neg, eqB, neB, eqS, neS, pExtract0, pExtract1, pExtract2, max_int, min_int, sz_nw, sz_wr, sz_drew, mm_nw, fz_nw, mm_drew, fz_drew, fz_wr, sz_mkS, mm_mkS, fz_mkS, Fr.mkS, mm_wr_same, mm_wr_ne, wr_wr, bs_oneT, splice_full, gt_zero, gt_succ, gt_set, gt_bs, byte_eq0, byte_eq1, byte_n0, byte_n1, Fr.refl, Fr.nw, Fr.wr, Fr.drew, ← hnd, e12, c1, c2]
        refine (sectors_spec ((hv.el p hpm).fr0 g3) (by omega)).call ?_
        rintro sv w4 ⟨hsv, f4⟩
        obtain ⟨sa, sc, hsvv⟩ := own_val hsv
        have hls : ∀ w, pBuiltin P .len #[76] 3 [sv] w = some (i64 nd, w) := fun w => by rw [hsvv, hnd]; exact len76
        have hsl := sectorsM_len p.1
        have hrdS : RdV w4 sv (sectorsM p.1).length (flat bs (sectorsM p.1)) := by rw [hsl]; exact own_rd hsv
        have hS64 : ∀ s ∈ sectorsM p.1, s.length = 64 := fun s hs => by
          obtain ⟨i, _, rfl⟩ := List.mem_map.1 hs
          exact sealOf_length (partS_len _ _ _)
        try simp (maxDischargeDepth := 8) [↓bindV_some, ↓bindU_some, ↓condE_true, ↓condE_false, ↓pickE_true, ↓pickE_false, ↓pickE_or, ↓pickE_and, ↓grdE_true, ↓grdE_false, ↓grdE_tf, ↓grdE_ft, ↓grdE_undef, ↓nilE_pt, ↓thenK_normal, ↓thenK_exit, ↓thenK_ret, ↓thenK_goto, ↓thenK_panic, ↓blockK_exit, ↓blockK_normal, ↓blockK_ret, ↓blockK_goto, ↓blockK_panic, ↓loopK_normal, ↓loopK_exit, ↓loopK_ret, ↓loopK_goto, ↓loopK_panic, ↓topK_ret, ↓topK_normal, ↓topK_panic, ↓resVs_nil, ↓resVs_tmp, ↓resVs_cell, tup_one, tup_nil, tup_two, put_get, argE_get, ↓takeE_def, ↓heldE_nil, ↓heldE_cons, qNil_pt, qPick_bool, qGrd_bool, qGrd_undef, ↓letK_def, pBox_eq, pBin_add, pBin_sub, pBin_mul, pBin_eql, pBin_neq, pBin_lss, pBin_leq, pBin_gtr, pBin_geq, pUn_not, pUn_neg, eqB, neB, eqS, neS, pExtract0, pExtract1, pExtract2, max_int, min_int, sz_nw, sz_wr, sz_drew, mm_nw, fz_nw, mm_drew, fz_drew, fz_wr, sz_mkS, mm_mkS, fz_mkS, Fr.mkS, mm_wr_same, mm_wr_ne, wr_wr, bs_oneT, splice_full, gt_zero, gt_succ, gt_set, gt_bs, byte_eq0, byte_eq1, byte_n0, byte_n1, Fr.refl, Fr.nw, Fr.wr, Fr.drew, hls]
        obtain ⟨E0, hE0⟩ : ∃ E0 : Env, E0 = fun t => if t = 7 then pt cb 0 else if t = 8 then pt r 0 else if t = 11 then wv else if t = 14 then p.2 else if t = 15 then i64 nd else if t = 16 then i64 0 else if t = 57 then v else if t = 58 then i64 L.length else i64 j := ⟨_, rfl⟩
        refine loopE_of (RdI w4 b sv (sectorsM p.1).length N lf E0) (sectorsM p.1).length ⟨0, rfl, by omega, Fr.refl _ _, by simp [put_get, e0], by simp [put_get, e5], by simp [put_get, e12], by simp [put_get], by simp [put_get, hsl, hnd], by simp [put_get],
          by simp [put_get, hE0, e7], by simp [put_get, hE0, e8], by simp [put_get, hE0, e11], by simp [put_get, hE0], by simp [put_get, hE0], by simp [put_get, hE0], by simp [put_get, hE0, e57], by simp [put_get, hE0, e58], by simp [put_get, hE0, e59]⟩ ?_
        intro m e3 w5 hI
        refine read_loop (at_ := tot Lp) hrdS hS64 (hdA.fr0 f4) hc' (by omega) (by omega) (by rw [hsl]; omega) (fun i s hs => ?_) hI (fun m' e' w' hlt hI' => ⟨m', hlt, hI'⟩) (fun e' w' hI' => ?_)
        · have hil : i < (sectorsM p.1).length := (List.getElem?_eq_some_iff.1 hs).1
          rw [hsl] at hil
          rw [hv', if_pos (by omega)]
          unfold sectorsM at hs
          rw [List.getElem?_map, List.getElem?_range hil] at hs
          simp only [Option.map_some, Option.some.injEq] at hs
          rw [← hs, show tot Lp + i - (0 + tot Lp) = i by omega]
        · obtain ⟨i, hi0, hil, f5, b0, b5, b12, b70, b71, b72, b7, b8, b11, b14, b15, b16, b57, b58, b59⟩ := hI'
          simp only [hE0] at b7 b8 b11 b14 b15 b16 b57 b58 b59
          simp at b7 b8 b11 b14 b15 b16 b57 b58 b59
          try simp (maxDischargeDepth := 8) [↓bindV_some, ↓bindU_some, ↓condE_true, ↓condE_false, ↓pickE_true, ↓pickE_false, ↓pickE_or, ↓pickE_and, ↓grdE_true, ↓grdE_false, ↓grdE_tf, ↓grdE_ft, ↓grdE_undef, ↓nilE_pt, ↓thenK_normal, ↓thenK_exit, ↓thenK_ret, ↓thenK_goto, ↓thenK_panic, ↓blockK_exit, ↓blockK_normal, ↓blockK_ret, ↓blockK_goto, ↓blockK_panic, ↓loopK_normal, ↓loopK_exit, ↓loopK_ret, ↓loopK_goto, ↓loopK_panic, ↓topK_ret, ↓topK_normal, ↓topK_panic, ↓resVs_nil, ↓resVs_tmp, ↓resVs_cell, tup_one, tup_nil, tup_two, put_get, argE_get, ↓takeE_def, ↓heldE_nil, ↓heldE_cons, qNil_pt, qPick_bool, qGrd_bool, qGrd_undef, ↓letK_def, pBox_eq, pBin_add, pBin_sub, pBin_mul, pBin_eql, pBin_neq, pBin_lss, pBin_leq, pBin_gtr, pBin_geq, pUn_not, pUn_neg, eqB, neB, eqS, neS, pExtract0, pExtract1, pExtract2, max_int, min_int, sz_nw, sz_wr, sz_drew, mm_nw, fz_nw, mm_drew, fz_drew, fz_wr, sz_mkS, mm_mkS, fz_mkS, Fr.mkS, mm_wr_same, mm_wr_ne, wr_wr, bs_oneT, splice_full, gt_zero, gt_succ, gt_set, gt_bs, byte_eq0, byte_eq1, byte_n0, byte_n1, Fr.refl, Fr.nw, Fr.wr, Fr.drew, b16, b14, hlpp]
          refine (rneed_spec (n := p.1.length) (by omega)).call ?_
          rintro _ w6 ⟨rfl, f6⟩
          have hb67 : ∀ w, pBuildSlice P 67 1 [(0, p.2)] w = some (sl (sz w) 0 1 1, nw w [p.2] 22) := fun w => by rw [hpv]; exact b67
          have q6 := (f4.trans0 f5).trans0 f6
          have f7 : Fr [] w6 (nw w6 [p.2] 22) := (Fr.refl [] w6).nw _ _
          have hrd7 : RdV (nw w6 [p.2] 22) (sl (sz w6) 0 1 1) 1 [p.2] := rd_new w6 [p.2] 22 (n := 1) (by unfold maxLen; omega)
          obtain ⟨wv2, w7, hrun, hown7, hgr7, hwv7⟩ := append_own2 (P := P) (t := 67) (ty := 67) (sz w) sliceE67 hasZero22 cellsOf22 (by rw [zeroL22]; rfl) (by omega) (own_fr hown3 (q6.trans0 f7) (by simp)) (by have := ((g3.trans0 q6).trans0 f7).size; omega) hrd7 (by simp) (by rw [hpv]; simp)
            (by unfold maxLen; omega) (by rw [bytesOf22]; omega)
          have f8 := Fr.of_grown hgr7
          have hwd : IntKind.i64.wrap ((lf : Int) - (nd : Int)) = ((lf - nd : Nat) : Int) := by rw [wrap64 (by omega) (by omega)]; omega
          obtain ⟨lf2, hlf2⟩ : ∃ lf2, lf2 = lf - nd := ⟨_, rfl⟩
          rw [← hlf2] at hwd
          try simp (maxDischargeDepth := 8) [↓bindV_some, ↓bindU_some, ↓condE_true, ↓condE_false, ↓pickE_true, ↓pickE_false, ↓pickE_or, ↓pickE_and, ↓grdE_true, ↓grdE_false, ↓grdE_tf, ↓grdE_ft, ↓grdE_undef, ↓nilE_pt, ↓thenK_normal, ↓thenK_exit, ↓thenK_ret, ↓thenK_goto, ↓thenK_panic, ↓blockK_exit, ↓blockK_normal, ↓blockK_ret, ↓blockK_goto, ↓blockK_panic, ↓loopK_normal, ↓loopK_exit, ↓loopK_ret, ↓loopK_goto, ↓loopK_panic, ↓topK_ret, ↓topK_normal, ↓topK_panic, ↓resVs_nil, ↓resVs_tmp, ↓resVs_cell, tup_one, tup_nil, tup_two, put_get, argE_get, ↓takeE_def, ↓heldE_nil, ↓heldE_cons, qNil_pt, qPick_bool, qGrd_bool, qGrd_undef, ↓letK_def, pBox_eq, pBin_add, pBin_sub, pBin_mul, pBin_eql, pBin_neq, pBin_lss, pBin_leq, pBin_gtr, pBin_geq, pUn_not, pUn_neg, eqB, neB, eqS, neS, pExtract0, pExtract1, pExtract2, max_int, min_int, sz_nw, sz_wr, sz_drew, mm_nw, fz_nw, mm_drew, fz_drew, fz_wr, sz_mkS, mm_mkS, fz_mkS, Fr.mkS, mm_wr_same, mm_wr_ne, wr_wr, bs_oneT, splice_full, gt_zero, gt_succ, gt_set, gt_bs, byte_eq0, byte_eq1, byte_n0, byte_n1, Fr.refl, Fr.nw, Fr.wr, Fr.drew, ← hnd, b15, b11, b14, b12, hb67, hrun, hwd, -bsl67]
          have hcl3 := lt_of_fz z3
          have hcw : ∀ c, wv.ownBlock = some c → c ∉ F3 ∧ c ≠ cb ∧ c ≠ r := hwv3
          have htot2 : tot (Lp ++ [p]) = tot Lp + nd := by
            unfold tot
            rw [List.map_append, List.map_singleton, total_snoc, hnd]
          have hF3lt : ∀ k ∈ F3, k < sz w3 := hdA.ltF
          have hrl3 := hroA.lt
          have nF : ∀ k ∈ F3, k ∉ wv.ownBlock.toList := fun k hk hk2 => (hcw k (by simpa using hk2)).1 hk
          have q7 := q6.trans0 f7
          have ncb : cb ∉ wv.ownBlock.toList := fun hk2 => (hcw cb (by simpa using hk2)).2.1 rfl
          have nr : r ∉ wv.ownBlock.toList := fun hk2 => (hcw r (by simpa using hk2)).2.2 rfl
          have hn64 := need_le (n := p.1.length) (by omega)
          have hlaid2 := hlaid.app (D' := D') (e := p.1) (by omega) (fun j => by have := hv' j; rw [Nat.zero_add] at this; rw [Nat.zero_add]; exact this)
          refine hK' _ _ ⟨Lp ++ [p], F3, D', wv2, (g3.trans0 q7).trans f8 (fun k hk => .inr (own_lt hown3 k (by simpa using hk)).1), (hdA.fr0 q7).fr f8 nF, hF3, ?_, hA.out, hc', ?_, by omega, by omega, ?_, ?_, ?_, ?_, ?_, ?_, by simp; omega,
            by simp [put_get, b0], by simp [put_get, b5], by simp [put_get, b7], by simp [put_get, b8], by simp [put_get], ?_, by simp [put_get, b57], by simp [put_get, b58], by simp [put_get, b59]⟩
          · rw [htot2, hnd]; exact (hroA.fr q7 (by simp)).fr f8 nr
          · rw [List.map_append, List.map_singleton, htot2, hnd, ← Nat.sub_sub]; exact hlaid2
          · rw [f8.mm (q7.lt hcl3) ncb, q7.mm hcl3 (by simp), m3]
          · rw [f8.fz (q7.lt hcl3) ncb, q7.fz hcl3 (by simp), z3]
          · rw [List.length_append, List.map_append]; exact hown7
          · intro c hcc
            rcases hwv7 with h | h
            · exact hcw c (by rw [← h]; exact hcc)
            · have : c = sz (nw w6 [p.2] 22) := by rw [h] at hcc; simpa using hcc.symm
              have := q7.size
              refine ⟨fun hk => by have := hF3lt c hk; omega, by omega, by omega⟩
          · intro q hq
            rcases List.mem_append.1 hq with hq | hq
            · exact hsub q hq
            · rw [List.mem_singleton] at hq; subst hq; exact hpm
          · intro q hq
            rcases List.mem_append.1 hq with hq | hq
            · exact hshort q hq
            · rw [List.mem_singleton] at hq; subst hq; omega
          · simp only [put_get]
            simp
            omega
    · intro e' w' hS
      obtain ⟨Lp', F', D', wv', k1, k2, k3, k4, k5, k6, k7, k8, k9, k10, k11, k12, k13, k14, k15, k16, a0, a5, a7, a8, a11, a12, a57, a58, a59⟩ := hS
      have htot' : tot Lp' + (N - tot Lp') = N := k7.1
      try simp (maxDischargeDepth := 8) [↓bindV_some, ↓bindU_some, ↓condE_true, ↓condE_false, ↓pickE_true, ↓pickE_false, ↓pickE_or, ↓pickE_and, ↓grdE_true, ↓grdE_false, ↓grdE_tf, ↓grdE_ft, ↓grdE_undef, ↓nilE_pt, ↓thenK_normal, ↓thenK_exit, ↓thenK_ret, ↓thenK_goto, ↓thenK_panic, ↓blockK_exit, ↓blockK_normal, ↓blockK_ret, ↓blockK_goto, ↓blockK_panic, ↓loopK_normal, ↓loopK_exit, ↓loopK_ret, ↓loopK_goto, ↓loopK_panic, ↓topK_ret, ↓topK_normal, ↓topK_panic, ↓resVs_nil, ↓resVs_tmp, ↓resVs_cell, tup_one, tup_nil, tup_two, put_get, argE_get, ↓takeE_def, ↓heldE_nil, ↓heldE_cons, qNil_pt, qPick_bool, qGrd_bool, qGrd_undef, ↓letK_def, pBox_eq, pBin_add, pBin_sub, pBin_mul, pBin_eql, pBin_neq, pBin_lss, pBin_leq, pBin_gtr, pBin_geq, pUn_not, pUn_neg, eqB, neB, eqS, neS, pExtract0, pExtract1, pExtract2, max_int, min_int, sz_nw, sz_wr, sz_drew, mm_nw, fz_nw, mm_drew, fz_drew, fz_wr, sz_mkS, mm_mkS, fz_mkS, Fr.mkS, mm_wr_same, mm_wr_ne, wr_wr, bs_oneT, splice_full, gt_zero, gt_succ, gt_set, gt_bs, byte_eq0, byte_eq1, byte_n0, byte_n1, Fr.refl, Fr.nw, Fr.wr, Fr.drew, thenK_normal, a8]
      refine (left_spec k4 (by omega) (by omega) (by omega)).call ?_
      rintro _ w9 ⟨rfl, f9⟩
      have hsub' : (N : Int) - ((tot Lp' : Nat) : Int) = ((N - tot Lp' : Nat) : Int) := by omega
      rw [hsub']
      obtain ⟨lf', hlf'⟩ : ∃ lf', lf' = N - tot Lp' := ⟨_, rfl⟩
      rw [← hlf'] at a12 ⊢
      try simp (maxDischargeDepth := 8) [↓bindV_some, ↓bindU_some, ↓condE_true, ↓condE_false, ↓pickE_true, ↓pickE_false, ↓pickE_or, ↓pickE_and, ↓grdE_true, ↓grdE_false, ↓grdE_tf, ↓grdE_ft, ↓grdE_undef, ↓nilE_pt, ↓thenK_normal, ↓thenK_exit, ↓thenK_ret, ↓thenK_goto, ↓thenK_panic, ↓blockK_exit, ↓blockK_normal, ↓blockK_ret, ↓blockK_goto, ↓blockK_panic, ↓loopK_normal, ↓loopK_exit, ↓loopK_ret, ↓loopK_goto, ↓loopK_panic, ↓topK_ret, ↓topK_normal, ↓topK_panic, ↓resVs_nil, ↓resVs_tmp, ↓resVs_cell, tup_one, tup_nil, tup_two, put_get, argE_get, ↓takeE_def, ↓heldE_nil, ↓heldE_cons, qNil_pt, qPick_bool, qGrd_bool, qGrd_undef, ↓letK_def, pBox_eq, pBin_add, pBin_sub, pBin_mul, pBin_eql, pBin_neq, pBin_lss, pBin_leq, pBin_gtr, pBin_geq, pUn_not, pUn_neg, eqB, neB, eqS, neS, pExtract0, pExtract1, pExtract2, max_int, min_int, sz_nw, sz_wr, sz_drew, mm_nw, fz_nw, mm_drew, fz_drew, fz_wr, sz_mkS, mm_mkS, fz_mkS, Fr.mkS, mm_wr_same, mm_wr_ne, wr_wr, bs_oneT, splice_full, gt_zero, gt_succ, gt_set, gt_bs, byte_eq0, byte_eq1, byte_n0, byte_n1, Fr.refl, Fr.nw, Fr.wr, Fr.drew, a12, a59, hw1, -Int.natCast_add]
      exact hN' (L.length - (j + 1)) _ _ (by omega) ⟨j + 1, rfl, by omega, Lp', F', D', wv', k1.trans0 f9, k2.fr0 f9, k3, k4.fr f9 (by simp), k5, k6, k7, by omega, by omega, by rw [f9.mm (lt_of_fz k11) (by simp), k10], by rw [f9.fz (lt_of_fz k11) (by simp), k11], own_fr k12 f9 (by simp), k13, k14, k15, by omega,
        by simp [put_get, a0], by simp [put_get, a5], by simp [put_get, a7], by simp [put_get, a8], by simp [put_get, a11], by simp [put_get, a12, hlf'], by simp [put_get, a57], by simp [put_get, a58], by simp [put_get]⟩
  · have hl1 : (j < L.length) = False := eq_false hjl
    have hl2 : ((j : Int) < L.length) = False := eq_false (by omega)
    try simp (maxDischargeDepth := 8) [↓bindV_some, ↓bindU_some, ↓condE_true, ↓condE_false, ↓pickE_true, ↓pickE_false, ↓pickE_or, ↓pickE_and, ↓grdE_true, ↓grdE_false, ↓grdE_tf, ↓grdE_ft, ↓grdE_undef, ↓nilE_pt, ↓thenK_normal, ↓thenK_exit, ↓thenK_ret, ↓thenK_goto, ↓thenK_panic, ↓blockK_exit, ↓blockK_normal, ↓blockK_ret, ↓blockK_goto, ↓blockK_panic, ↓loopK_normal, ↓loopK_exit, ↓loopK_ret, ↓loopK_goto, ↓loopK_panic, ↓topK_ret, ↓topK_normal, ↓topK_panic, ↓resVs_nil, ↓resVs_tmp, ↓resVs_cell, tup_one, tup_nil, tup_two, put_get, argE_get, ↓takeE_def, ↓heldE_nil, ↓heldE_cons, qNil_pt, qPick_bool, qGrd_bool, qGrd_undef, ↓letK_def, pBox_eq, pBin_add, pBin_sub, pBin_mul, pBin_eql, pBin_neq, pBin_lss, pBin_leq, pBin_gtr, pBin_geq, pUn_not, pUn_neg, eqB, neB, eqS, neS, pExtract0, pExtract1, pExtract2, max_int, min_int, sz_nw, sz_wr, sz_drew, mm_nw, fz_nw, mm_drew, fz_drew, fz_wr, sz_mkS, mm_mkS, fz_mkS, Fr.mkS, mm_wr_same, mm_wr_ne, wr_wr, bs_oneT, splice_full, gt_zero, gt_succ, gt_set, gt_bs, byte_eq0, byte_eq1, byte_n0, byte_n1, Fr.refl, Fr.nw, Fr.wr, Fr.drew, e58, e59, hl1, hl2]
    exact hX _ _ ⟨j, by omega, hj, Lp, F, D, wv, hf, hd, hF, hro, hrF, hc, hlaid, hpl, hwl, m4, z4, hown, hwv, hsub, hshort, hLl, by simp [put_get, e0], by simp [put_get, e5], by simp [put_get, e7], by simp [put_get, e8], by simp [put_get, e11], by simp [put_get, e12], by simp [put_get, e57], by simp [put_get, e58], by simp [put_get, e59]⟩
end Go.Proofs.Yticncfkpfpkfoaa
