/- One entry (f73). -/
import Derived.Test.YticncfkpfpkfoaaRollA
import Derived.Test.YticncfkpfpkfoaaSubs
set_option linter.unusedVariables false
set_option linter.unusedSimpArgs false
namespace Go.Proofs.Yticncfkpfpkfoaa
open Go

noncomputable def areaS (D : DD) (fr ln : Nat) : List (List UInt8) := (List.range ln).map fun i => readD D ((fr + i : Nat) : Int)
theorem areaS_drop {D : DD} {fr ln k : Nat} (h : k < ln) : (areaS D fr ln).drop k = readD D ((fr + k : Nat) : Int) :: (areaS D fr ln).drop (k + 1) := by
  have hl : k < (areaS D fr ln).length := by simp [areaS]; exact h
  rw [List.drop_eq_getElem_cons hl]
  simp [areaS]
theorem areaS_len (D : DD) (fr ln : Nat) : (areaS D fr ln).length = ln := by simp [areaS]
theorem areaS_end {D : DD} {fr ln k : Nat} (h : ln ≤ k) : (areaS D fr ln).drop k = [] := List.drop_eq_nil_of_le (by rw [areaS_len]; exact h)
/-- What 'one' answers. -/
def OneR (base : Nat) (r : Option (List UInt8 × Nat)) (x : Value) (w' : World) : Prop :=
  (r = none ∧ x = .tuple #[.slice none 0 0, i64 0, i64 0]) ∨ ∃ b n ov, r = some (b, n) ∧ x = .tuple #[ov, i64 n, i64 0] ∧ w'.ownsRow base 5 1 ov b.length (bs b)
def OneI (w : World) (b : Nat) (D : DD) (F : List Nat) (fr ln at_ : Nat) (m : Nat) (e : Env) (w' : World) : Prop :=
  ∃ (n first : Nat) (out : List UInt8) (ov : Value), m = ln - (at_ + n) ∧ Fr [] w w' ∧ first ≤ 255 ∧ out.length ≤ 64 * n ∧ at_ + n ≤ ln ∧ oneGo ((areaS D fr ln).drop (at_ + n)) n first out = oneM ((areaS D fr ln).drop at_) ∧
    w'.ownsRow (sz w) 5 1 ov out.length (bs out) ∧ mm w' (sz w) = [i64 fr, i64 ln] ∧ fz w' (sz w) = false ∧ (∀ k, ov.ownBlock = some k → k ≠ sz w) ∧
    e 0 = pt b 0 ∧ e 2 = i64 at_ ∧ e 4 = pt (sz w) 0 ∧ e 9 = ov ∧ e 10 = i64 first ∧ e 11 = i64 n
theorem one_step {w : World} {b : Nat} {D : DD} {F : List Nat} {fr ln at_ : Nat} (h : IsD w b D F) (hd : D.down = false) (hfit : fr + ln ≤ D.firm.length) {m : Nat} {e : Env} {w1 : World}
    (hI : OneI w b D F fr ln at_ m e w1) {K : KT} (hN : ∀ m' e' w', m' < m → OneI w b D F fr ln at_ m' e' w' → K .normal e' w')
    (hX : ∀ e' w', Fr [] w w' → oneM ((areaS D fr ln).drop at_) = none → K (.exit 0) e' w')
    (hR : ∀ e' w' x6 x7, Fr [] w w' → e' 6 = x6 → e' 7 = x7 → e' 8 = i64 0 → OneR (sz w) (oneM ((areaS D fr ln).drop at_)) (.tuple #[x6, x7, i64 0]) w' → K .ret e' w') : F73B0 e w1 K := by
  obtain ⟨n, first, out, ov, hm, hf, hfirst, hol, hle, hgo, hown, m4, f4, hob, e0, e2, e4, e9, e10, e11⟩ := hI
  subst hm
  unfold F73B0
  have hlen : D.firm.length ≤ 4096 := by obtain ⟨hw, _⟩ := id h; exact hw.len
  have hwD : WfD D := by obtain ⟨hw, _⟩ := id h; exact hw
  obtain ⟨q, hq⟩ : ∃ q : Nat, q = at_ + n := ⟨_, rfl⟩
  have h1 : IntKind.i64.wrap ((at_ : Int) + n) = (q : Int) := by rw [wrap64 (by omega) (by omega)]; omega
  have hsz := lt_of_fz f4
  by_cases hlt : q < ln
  · have hl1 : (q < ln) = True := eq_true hlt
    have hl2 : ((q : Int) < ln) = True := eq_true (by omega)
    rw [← hq, areaS_drop hlt, oneGo] at hgo
    have h2 : IntKind.i64.wrap ((fr : Int) + at_) = ((fr + at_ : Nat) : Int) := by rw [wrap64 (by omega) (by omega)]; omega
    have h3 : IntKind.i64.wrap (((fr + at_ : Nat) : Int) + n) = ((fr + q : Nat) : Int) := by rw [wrap64 (by omega) (by omega)]; omega
    try simp (maxDischargeDepth := 8) [↓bindV_some, ↓bindU_some, ↓condE_true, ↓condE_false, ↓pickE_true, ↓pickE_false, ↓pickE_or, ↓pickE_and, ↓grdE_true, ↓grdE_false, ↓grdE_tf, ↓grdE_ft, ↓grdE_undef, ↓nilE_pt, ↓thenK_normal, ↓thenK_exit, ↓thenK_ret, ↓thenK_goto, ↓thenK_panic, ↓blockK_exit, ↓blockK_normal, ↓blockK_ret, ↓blockK_goto, ↓blockK_panic, ↓loopK_normal, ↓loopK_exit, ↓loopK_ret, ↓loopK_goto, ↓loopK_panic, ↓topK_ret, ↓topK_normal, ↓topK_panic, ↓resVs_nil, ↓resVs_tmp, ↓resVs_cell, tup_one, tup_nil, tup_two, put_get, argE_get, ↓takeE_def, ↓heldE_nil, ↓heldE_cons, qNil_pt, qPick_bool, qGrd_bool, qGrd_undef, ↓letK_def, pBox_eq, pBin_add, pBin_sub, pBin_mul, pBin_eql, pBin_neq, pBin_lss, pBin_leq, pBin_gtr, pBin_geq, pUn_not, pUn_neg, eqB, neB, eqS, neS, pExtract0, pExtract1, pExtract2, max_int, min_int, sz_nw, sz_wr, sz_drew, mm_nw, fz_nw, mm_drew, fz_drew, fz_wr, sz_mkS, mm_mkS, fz_mkS, Fr.mkS, mm_wr_same, mm_wr_ne, wr_wr, bs_oneT, splice_full, gt_zero, gt_succ, gt_set, gt_bs, byte_eq0, byte_eq1, byte_n0, byte_n1, Fr.refl, Fr.nw, Fr.wr, Fr.drew, letK_def, e0, e2, e4, e11, m4, hsz, h1, hl1, hl2, h2, h3, -Int.natCast_add]
    have hok : okE D ((fr + q : Nat) : Int) = 0 := by
      unfold okE
      rw [hd, if_neg (by simp), if_neg (by omega)]
    refine (read_spec (x := ((fr + q : Nat) : Int)) (h.fr0 hf) (by omega) (by omega)).call ?_
    rintro _ w2 ⟨rfl, f2⟩
    rw [hok, if_pos rfl]
    have hs64 : (readD D ((fr + q : Nat) : Int)).length = 64 := readD_len hwD (by omega) (by omega)
    generalize readD D ((fr + q : Nat) : Int) = s at *
    have hst : pStore P 25 (pt (sz w2) 0) (sec s) (nw w2 (bs (zb 64)) 25) = some (wr (nw w2 (bs (zb 64)) 25) (sz w2) (bs s)) := by
      try simp (maxDischargeDepth := 8) [↓bindV_some, ↓bindU_some, ↓condE_true, ↓condE_false, ↓pickE_true, ↓pickE_false, ↓pickE_or, ↓pickE_and, ↓grdE_true, ↓grdE_false, ↓grdE_tf, ↓grdE_ft, ↓grdE_undef, ↓nilE_pt, ↓thenK_normal, ↓thenK_exit, ↓thenK_ret, ↓thenK_goto, ↓thenK_panic, ↓blockK_exit, ↓blockK_normal, ↓blockK_ret, ↓blockK_goto, ↓blockK_panic, ↓loopK_normal, ↓loopK_exit, ↓loopK_ret, ↓loopK_goto, ↓loopK_panic, ↓topK_ret, ↓topK_normal, ↓topK_panic, ↓resVs_nil, ↓resVs_tmp, ↓resVs_cell, tup_one, tup_nil, tup_two, put_get, argE_get, ↓takeE_def, ↓heldE_nil, ↓heldE_cons, qNil_pt, qPick_bool, qGrd_bool, qGrd_undef, ↓letK_def, pBox_eq, pBin_add, pBin_sub, pBin_mul, pBin_eql, pBin_neq, pBin_lss, pBin_leq, pBin_gtr, pBin_geq, pUn_not, pUn_neg, eqB, neB, eqS, neS, pExtract0, pExtract1, pExtract2, max_int, min_int, sz_nw, sz_wr, sz_drew, mm_nw, fz_nw, mm_drew, fz_drew, fz_wr, sz_mkS, mm_mkS, fz_mkS, Fr.mkS, mm_wr_same, mm_wr_ne, wr_wr, bs_oneT, splice_full, gt_zero, gt_succ, gt_set, gt_bs, byte_eq0, byte_eq1, byte_n0, byte_n1, Fr.refl, Fr.nw, Fr.wr, Fr.drew, hs64]
    obtain ⟨X, hX⟩ : ∃ X, X = wr (nw w2 (bs (zb 64)) 25) (sz w2) (bs s) := ⟨_, rfl⟩
    have fX : Fr [] w2 X := by rw [hX]; exact ((Fr.refl [] w2).nw _ _).wr (.inr (Nat.le_refl _)) _
    have hXm : mm X (sz w2) = bs s := by rw [hX, mm_wr_same]; simp [sz_nw, sz_wr, sz_drew, mm_nw, fz_nw, mm_drew, fz_drew, fz_wr, sz_mkS, mm_mkS, fz_mkS, Fr.mkS, mm_wr_same, mm_wr_ne, wr_wr, bs_oneT, splice_full, gt_zero, gt_succ, gt_set, gt_bs, byte_eq0, byte_eq1, byte_n0, byte_n1, Fr.refl, Fr.nw, Fr.wr, Fr.drew]
    have hld : pLoad P 25 (pt (sz w2) 0) X = some (sec s, X) := by
      rw [ld25 (by rw [hXm, bs_length]; omega), hXm, List.drop_zero, List.take_of_length_le (by rw [bs_length]; omega)]
    rw [← hX] at hst
    try simp (maxDischargeDepth := 8) [↓bindV_some, ↓bindU_some, ↓condE_true, ↓condE_false, ↓pickE_true, ↓pickE_false, ↓pickE_or, ↓pickE_and, ↓grdE_true, ↓grdE_false, ↓grdE_tf, ↓grdE_ft, ↓grdE_undef, ↓nilE_pt, ↓thenK_normal, ↓thenK_exit, ↓thenK_ret, ↓thenK_goto, ↓thenK_panic, ↓blockK_exit, ↓blockK_normal, ↓blockK_ret, ↓blockK_goto, ↓blockK_panic, ↓loopK_normal, ↓loopK_exit, ↓loopK_ret, ↓loopK_goto, ↓loopK_panic, ↓topK_ret, ↓topK_normal, ↓topK_panic, ↓resVs_nil, ↓resVs_tmp, ↓resVs_cell, tup_one, tup_nil, tup_two, put_get, argE_get, ↓takeE_def, ↓heldE_nil, ↓heldE_cons, qNil_pt, qPick_bool, qGrd_bool, qGrd_undef, ↓letK_def, pBox_eq, pBin_add, pBin_sub, pBin_mul, pBin_eql, pBin_neq, pBin_lss, pBin_leq, pBin_gtr, pBin_geq, pUn_not, pUn_neg, eqB, neB, eqS, neS, pExtract0, pExtract1, pExtract2, max_int, min_int, sz_nw, sz_wr, sz_drew, mm_nw, fz_nw, mm_drew, fz_drew, fz_wr, sz_mkS, mm_mkS, fz_mkS, Fr.mkS, mm_wr_same, mm_wr_ne, wr_wr, bs_oneT, splice_full, gt_zero, gt_succ, gt_set, gt_bs, byte_eq0, byte_eq1, byte_n0, byte_n1, Fr.refl, Fr.nw, Fr.wr, Fr.drew, hst, hld, -st25, -ld25]
    refine (open_spec hs64).call ?_
    rintro _ w3 ⟨f3, x, rfl, hx1, hx2⟩
    have g3 := ((hf.trans0 f2).trans0 fX).trans0 f3
    have f13 := (f2.trans0 fX).trans0 f3
    by_cases hwh : isWhole s
    · have hxr := hx1 hwh
      have hxp := pay_length hs64 hwh.2.2.1
      have hp61 := hwh.2.2.1
      rw [← hxp] at hp61
      obtain ⟨xa, xc, hxv⟩ := sl_of hxr
      have hlx : ∀ w, pBuiltin P .len #[22] 3 [x] w = some (i64 (pay s).length, w) := fun w => by rw [hxv]; exact len22
      by_cases hp1 : 1 ≤ (pay s).length
      · rw [if_pos ⟨hwh, hp1⟩] at hgo
        have p1 : (((pay s).length : Int) < 1) = False := eq_false (by omega)
        have p2 : ((pay s).length < 1) = False := eq_false (by omega)
        have p3 : ((pay s).length = 0) = False := eq_false (by omega)
        have p4 : (pay s = []) = False := eq_false (by intro h; rw [h] at hp1; simp at hp1)
        obtain ⟨ab, ao, ac, hxv2, q1, q2⟩ := rd_cell hxr (i := 0) hp1
        have hia : ∀ w', pIndexAddr P 22 x (Value.int .i64 0) w' = some (pt ab ao, w') := fun w' => by
          rw [hxv2]
          have := ia22 (w := w') (b := ab) (o := ao) (n := (pay s).length) (c := ac) (k := .i64) (j := 0) (by omega) (by omega)
          rw [this]; simp
        rw [Nat.add_zero] at q1 q2
        have hl5 : pLoad P 5 (pt ab ao) w3 = some (bv (gb (pay s) 0), w3) := by rw [ld5 q1, q2]
        have hlb := (gb (pay s) 0).toNat_lt
        have hcv : ∀ w, pConv P 5 3 (bv (gb (pay s) 0)) w = some (i64 (leftOf s), w) := fun w => by
          have hwx : IntKind.i64.wrap ((gb (pay s) 0).toNat : Int) = ((gb (pay s) 0).toNat : Int) := wrap64 (by omega) (by omega)
          unfold leftOf
          try simp (maxDischargeDepth := 8) [↓bindV_some, ↓bindU_some, ↓condE_true, ↓condE_false, ↓pickE_true, ↓pickE_false, ↓pickE_or, ↓pickE_and, ↓grdE_true, ↓grdE_false, ↓grdE_tf, ↓grdE_ft, ↓grdE_undef, ↓nilE_pt, ↓thenK_normal, ↓thenK_exit, ↓thenK_ret, ↓thenK_goto, ↓thenK_panic, ↓blockK_exit, ↓blockK_normal, ↓blockK_ret, ↓blockK_goto, ↓blockK_panic, ↓loopK_normal, ↓loopK_exit, ↓loopK_ret, ↓loopK_goto, ↓loopK_panic, ↓topK_ret, ↓topK_normal, ↓topK_panic, ↓resVs_nil, ↓resVs_tmp, ↓resVs_cell, tup_one, tup_nil, tup_two, put_get, argE_get, ↓takeE_def, ↓heldE_nil, ↓heldE_cons, qNil_pt, qPick_bool, qGrd_bool, qGrd_undef, ↓letK_def, pBox_eq, pBin_add, pBin_sub, pBin_mul, pBin_eql, pBin_neq, pBin_lss, pBin_leq, pBin_gtr, pBin_geq, pUn_not, pUn_neg, eqB, neB, eqS, neS, pExtract0, pExtract1, pExtract2, max_int, min_int, sz_nw, sz_wr, sz_drew, mm_nw, fz_nw, mm_drew, fz_drew, fz_wr, sz_mkS, mm_mkS, fz_mkS, Fr.mkS, mm_wr_same, mm_wr_ne, wr_wr, bs_oneT, splice_full, gt_zero, gt_succ, gt_set, gt_bs, byte_eq0, byte_eq1, byte_n0, byte_n1, Fr.refl, Fr.nw, Fr.wr, Fr.drew, bv, hwx]
        have hl255 : leftOf s ≤ 255 := by unfold leftOf; omega
        generalize hbyte : bv (gb (pay s) 0) = byte at *
        obtain ⟨lf, hlf⟩ : ∃ lf, lf = leftOf s := ⟨_, rfl⟩
        rw [← hlf] at hcv hl255 hgo
        obtain ⟨f', hf'⟩ : ∃ f', f' = firstOf n first s := ⟨_, rfl⟩
        rw [← hf'] at hgo
        have hf255 : f' ≤ 255 := by rw [hf']; unfold firstOf; split <;> omega
        have hf2' : f' = if n = 0 then lf else first := by rw [hf', hlf]; rfl
        have hbp : badP n f' s ↔ ((lf : Int) ≠ (f' : Int) - n ∨ 63 < lf ∨ (0 < lf ∧ (pay s).length ≠ 61) ∨ (0 < n ∧ lf = 0 ∧ (pay s).length = 1)) := by unfold badP; rw [← hlf]
        have m3 : mm w3 (sz w) = [i64 fr, i64 ln] := by rw [f13.mm hsz (by simp), m4]
        have z3 : fz w3 (sz w) = false := by rw [f13.fz hsz (by simp), f4]
        have hown3 := own_fr hown f13 (by simp)
        try simp (maxDischargeDepth := 8) [↓bindV_some, ↓bindU_some, ↓condE_true, ↓condE_false, ↓pickE_true, ↓pickE_false, ↓pickE_or, ↓pickE_and, ↓grdE_true, ↓grdE_false, ↓grdE_tf, ↓grdE_ft, ↓grdE_undef, ↓nilE_pt, ↓thenK_normal, ↓thenK_exit, ↓thenK_ret, ↓thenK_goto, ↓thenK_panic, ↓blockK_exit, ↓blockK_normal, ↓blockK_ret, ↓blockK_goto, ↓blockK_panic, ↓loopK_normal, ↓loopK_exit, ↓loopK_ret, ↓loopK_goto, ↓loopK_panic, ↓topK_ret, ↓topK_normal, ↓topK_panic, ↓resVs_nil, ↓resVs_tmp, ↓resVs_cell, tup_one, tup_nil, tup_two, put_get, argE_get, ↓takeE_def, ↓heldE_nil, ↓heldE_cons, qNil_pt, qPick_bool, qGrd_bool, qGrd_undef, ↓letK_def, pBox_eq, pBin_add, pBin_sub, pBin_mul, pBin_eql, pBin_neq, pBin_lss, pBin_leq, pBin_gtr, pBin_geq, pUn_not, pUn_neg, eqB, neB, eqS, neS, pExtract0, pExtract1, pExtract2, max_int, min_int, sz_nw, sz_wr, sz_drew, mm_nw, fz_nw, mm_drew, fz_drew, fz_wr, sz_mkS, mm_mkS, fz_mkS, Fr.mkS, mm_wr_same, mm_wr_ne, wr_wr, bs_oneT, splice_full, gt_zero, gt_succ, gt_set, gt_bs, byte_eq0, byte_eq1, byte_n0, byte_n1, Fr.refl, Fr.nw, Fr.wr, Fr.drew, hwh, hlx, p1, p2, p3, p4, hia, hl5, hcv, e11]
        refine condE_join (M := fun e' w' => w3 = w' ∧ e' 0 = pt b 0 ∧ e' 2 = i64 at_ ∧ e' 4 = pt (sz w) 0 ∧ e' 9 = ov ∧ e' 10 = i64 f' ∧ e' 11 = i64 n ∧ e' 14 = x ∧ e' 16 = i64 lf) ?_ ?_ ?_
        · intro hn K' hK'
          have hn0 : n = 0 := by simpa using hn
          rw [hn0, if_pos rfl] at hf2'
          exact hK' _ _ ⟨rfl, by simp [put_get, e0], by simp [put_get, e2], by simp [put_get, e4], by simp [put_get, e9], by simp [put_get, hf2'], by simp [put_get, e11], by simp [put_get], by simp [put_get]⟩
        · intro hn K' hK'
          have hn0 : ¬ n = 0 := by simpa using hn
          rw [if_neg hn0] at hf2'
          exact hK' _ _ ⟨rfl, by simp [put_get, e0], by simp [put_get, e2], by simp [put_get, e4], by simp [put_get, e9], by simp [put_get, hf2', e10], by simp [put_get, e11], by simp [put_get], by simp [put_get]⟩
        · clear e0 e2 e4 e9 e10 e11
          rintro e' _ ⟨rfl, e0, e2, e4, e9, e10, e11, e14, e16⟩
          obtain ⟨d, hd2⟩ : ∃ d : Int, d = (f' : Int) - n := ⟨_, rfl⟩
          rw [← hd2] at hbp
          have hsub : IntKind.i64.wrap ((f' : Int) - n) = d := by rw [hd2]; exact wrap64 (by omega) (by omega)
          have hw1 : IntKind.i64.wrap ((n : Int) + 1) = ((n + 1 : Nat) : Int) := wrap64 (by omega) (by omega)
          have bad : badP n f' s → ∀ e'' w'', Fr [] w w'' → e'' 6 = .slice none 0 0 → e'' 7 = i64 0 → e'' 8 = i64 0 → K .ret e'' w'' := fun hb e'' w'' hfr a6 a7 a8 => by
            rw [if_pos hb] at hgo
            exact hR e'' w'' _ _ hfr a6 a7 a8 (.inl ⟨hgo.symm, rfl⟩)
          by_cases c1 : (lf : Int) = d
          · have c1a : ((lf : Int) = d) = True := eq_true c1
            by_cases c2 : 63 < lf
            · have c2a : (63 < lf) = True := eq_true c2
              have c2b : ((63 : Int) < lf) = True := eq_true (by omega)
              try simp (maxDischargeDepth := 8) [↓bindV_some, ↓bindU_some, ↓condE_true, ↓condE_false, ↓pickE_true, ↓pickE_false, ↓pickE_or, ↓pickE_and, ↓grdE_true, ↓grdE_false, ↓grdE_tf, ↓grdE_ft, ↓grdE_undef, ↓nilE_pt, ↓thenK_normal, ↓thenK_exit, ↓thenK_ret, ↓thenK_goto, ↓thenK_panic, ↓blockK_exit, ↓blockK_normal, ↓blockK_ret, ↓blockK_goto, ↓blockK_panic, ↓loopK_normal, ↓loopK_exit, ↓loopK_ret, ↓loopK_goto, ↓loopK_panic, ↓topK_ret, ↓topK_normal, ↓topK_panic, ↓resVs_nil, ↓resVs_tmp, ↓resVs_cell, tup_one, tup_nil, tup_two, put_get, argE_get, ↓takeE_def, ↓heldE_nil, ↓heldE_cons, qNil_pt, qPick_bool, qGrd_bool, qGrd_undef, ↓letK_def, pBox_eq, pBin_add, pBin_sub, pBin_mul, pBin_eql, pBin_neq, pBin_lss, pBin_leq, pBin_gtr, pBin_geq, pUn_not, pUn_neg, eqB, neB, eqS, neS, pExtract0, pExtract1, pExtract2, max_int, min_int, sz_nw, sz_wr, sz_drew, mm_nw, fz_nw, mm_drew, fz_drew, fz_wr, sz_mkS, mm_mkS, fz_mkS, Fr.mkS, mm_wr_same, mm_wr_ne, wr_wr, bs_oneT, splice_full, gt_zero, gt_succ, gt_set, gt_bs, byte_eq0, byte_eq1, byte_n0, byte_n1, Fr.refl, Fr.nw, Fr.wr, Fr.drew, e10, e11, e16, hsub, c1a, c2a, c2b]
              exact bad (hbp.2 (.inr (.inl c2))) _ _ g3 (by simp [put_get]) (by simp [put_get]) (by simp [put_get])
            · have c2a : (63 < lf) = False := eq_false c2
              have c2b : ((63 : Int) < lf) = False := eq_false (by omega)
              obtain ⟨S, hS, hSr, _⟩ := sl_from (t := 22) (lo := 1) sliceE22 hxr hp1
              have hS : ∀ w', pSlice P 22 x (some (Value.int .i64 1)) none none w' = some (S, w') := hS
              have hdl : ((pay s).drop 1).length ≤ 60 := by rw [List.length_drop]; omega
              obtain ⟨v', w4, hrun, hown4, hg4, hv4⟩ := append_own2 (P := P) (t := 22) (ty := 22) (sz w) sliceE22 hasZero5 cellsOf5 (by rw [zeroL5]; rfl) (by omega) hown3 (by have := g3.size; omega) hSr (by simp) bs_one
                (by unfold maxLen; omega) (by rw [bytesOf5]; omega)
              have f4' := Fr.of_grown hg4
              have g4 : Fr [] w w4 := g3.trans f4' (fun k hk => .inr (own_lt hown3 k (by simpa using hk)).1)
              have hnb : sz w ∉ ov.ownBlock.toList := fun hk => hob _ (by simpa using hk) rfl
              have hs3 := lt_of_fz z3
              have m5 : mm w4 (sz w) = [i64 fr, i64 ln] := by rw [f4'.mm hs3 hnb, m3]
              have z5 : fz w4 (sz w) = false := by rw [f4'.fz hs3 hnb, z3]
              have hob' : ∀ k, v'.ownBlock = some k → k ≠ sz w := fun k hk => by
                rcases hv4 with h | h
                · exact hob k (by rw [← h]; exact hk)
                · have : k = sz w3 := by rw [h] at hk; simpa using hk.symm
                  omega
              rw [← bs_append, ← List.length_append] at hown4
              have ret : lf = 0 → ¬ badP n f' s → ∀ e'', e'' 6 = v' → e'' 7 = i64 ((n + 1 : Nat) : Int) → e'' 8 = i64 0 → K .ret e'' w4 := fun hl0 hb e'' a6 a7 a8 => by
                rw [if_neg hb, if_pos hl0] at hgo
                exact hR e'' w4 _ _ g4 a6 a7 a8 (.inr ⟨_, _, v', hgo.symm, rfl, hown4⟩)
              have nxt : ¬ lf = 0 → ¬ badP n f' s → ∀ e'', e'' 0 = pt b 0 → e'' 2 = i64 at_ → e'' 4 = pt (sz w) 0 → e'' 9 = v' → e'' 10 = i64 f' → e'' 11 = i64 ((n + 1 : Nat) : Int) → K .normal e'' w4 := fun hl0 hb e'' a0 a2 a4 a9 a10 a11 => by
                rw [if_neg hb, if_neg hl0] at hgo
                have hq1 : q + 1 = at_ + (n + 1) := by omega
                rw [hq1] at hgo
                exact hN (ln - (at_ + (n + 1))) e'' w4 (by omega) ⟨n + 1, f', _, v', rfl, g4, hf255, by rw [List.length_append]; omega, by omega, hgo, hown4, m5, z5, hob', a0, a2, a4, a9, a10, a11⟩
              by_cases c3 : 0 < lf
              · have c3a : (0 < lf) = True := eq_true c3
                have c3b : ((0 : Int) < lf) = True := eq_true (by omega)
                have c3c : ((lf : Int) = 0) = False := eq_false (by omega)
                have c3d : (lf = 0) = False := eq_false (by omega)
                by_cases c4 : (pay s).length = 61
                · have c4a : (((pay s).length : Int) = 61) = True := eq_true (by omega)
                  have c4b : ((pay s).length = 61) = True := eq_true c4
                  have hb : ¬ badP n f' s := by rw [hbp]; omega
                  by_cases c5 : 0 < n
                  · have c5a : (0 < n) = True := eq_true c5
                    have c5b : ((0 : Int) < n) = True := eq_true (by omega)
                    try simp (maxDischargeDepth := 8) [↓bindV_some, ↓bindU_some, ↓condE_true, ↓condE_false, ↓pickE_true, ↓pickE_false, ↓pickE_or, ↓pickE_and, ↓grdE_true, ↓grdE_false, ↓grdE_tf, ↓grdE_ft, ↓grdE_undef, ↓nilE_pt, ↓thenK_normal, ↓thenK_exit, ↓thenK_ret, ↓thenK_goto, ↓thenK_panic, ↓blockK_exit, ↓blockK_normal, ↓blockK_ret, ↓blockK_goto, ↓blockK_panic, ↓loopK_normal, ↓loopK_exit, ↓loopK_ret, ↓loopK_goto, ↓loopK_panic, ↓topK_ret, ↓topK_normal, ↓topK_panic, ↓resVs_nil, ↓resVs_tmp, ↓resVs_cell, tup_one, tup_nil, tup_two, put_get, argE_get, ↓takeE_def, ↓heldE_nil, ↓heldE_cons, qNil_pt, qPick_bool, qGrd_bool, qGrd_undef, ↓letK_def, pBox_eq, pBin_add, pBin_sub, pBin_mul, pBin_eql, pBin_neq, pBin_lss, pBin_leq, pBin_gtr, pBin_geq, pUn_not, pUn_neg, eqB, neB, eqS, neS, pExtract0, pExtract1, pExtract2, max_int, min_int, sz_nw, sz_wr, sz_drew, mm_nw, fz_nw, mm_drew, fz_drew, fz_wr, sz_mkS, mm_mkS, fz_mkS, Fr.mkS, mm_wr_same, mm_wr_ne, wr_wr, bs_oneT, splice_full, gt_zero, gt_succ, gt_set, gt_bs, byte_eq0, byte_eq1, byte_n0, byte_n1, Fr.refl, Fr.nw, Fr.wr, Fr.drew, e9, e10, e11, e14, e16, hsub, c1a, c2a, c2b, c3a, c3b, c3c, c3d, hlx, c4a, c4b, c5a, c5b, hS, hrun, hw1, -Int.natCast_add]
                    exact nxt (by omega) hb _ (by simp [put_get, e0]) (by simp [put_get, e2]) (by simp [put_get, e4]) (by simp [put_get]) (by simp [put_get, e10]) (by simp [put_get])
                  · have c5a : (0 < n) = False := eq_false c5
                    have c5b : ((0 : Int) < n) = False := eq_false (by omega)
                    try simp (maxDischargeDepth := 8) [↓bindV_some, ↓bindU_some, ↓condE_true, ↓condE_false, ↓pickE_true, ↓pickE_false, ↓pickE_or, ↓pickE_and, ↓grdE_true, ↓grdE_false, ↓grdE_tf, ↓grdE_ft, ↓grdE_undef, ↓nilE_pt, ↓thenK_normal, ↓thenK_exit, ↓thenK_ret, ↓thenK_goto, ↓thenK_panic, ↓blockK_exit, ↓blockK_normal, ↓blockK_ret, ↓blockK_goto, ↓blockK_panic, ↓loopK_normal, ↓loopK_exit, ↓loopK_ret, ↓loopK_goto, ↓loopK_panic, ↓topK_ret, ↓topK_normal, ↓topK_panic, ↓resVs_nil, ↓resVs_tmp, ↓resVs_cell, tup_one, tup_nil, tup_two, put_get, argE_get, ↓takeE_def, ↓heldE_nil, ↓heldE_cons, qNil_pt, qPick_bool, qGrd_bool, qGrd_undef, ↓letK_def, pBox_eq, pBin_add, pBin_sub, pBin_mul, pBin_eql, pBin_neq, pBin_lss, pBin_leq, pBin_gtr, pBin_geq, pUn_not, pUn_neg, eqB, neB, eqS, neS, pExtract0, pExtract1, pExtract2, max_int, min_int, sz_nw, sz_wr, sz_drew, mm_nw, fz_nw, mm_drew, fz_drew, fz_wr, sz_mkS, mm_mkS, fz_mkS, Fr.mkS, mm_wr_same, mm_wr_ne, wr_wr, bs_oneT, splice_full, gt_zero, gt_succ, gt_set, gt_bs, byte_eq0, byte_eq1, byte_n0, byte_n1, Fr.refl, Fr.nw, Fr.wr, Fr.drew, e9, e10, e11, e14, e16, hsub, c1a, c2a, c2b, c3a, c3b, c3c, c3d, hlx, c4a, c4b, c5a, c5b, hS, hrun, hw1, -Int.natCast_add]
                    exact nxt (by omega) hb _ (by simp [put_get, e0]) (by simp [put_get, e2]) (by simp [put_get, e4]) (by simp [put_get]) (by simp [put_get, e10]) (by simp [put_get])
                · have c4a : (((pay s).length : Int) = 61) = False := eq_false (by omega)
                  have c4b : ((pay s).length = 61) = False := eq_false c4
                  try simp (maxDischargeDepth := 8) [↓bindV_some, ↓bindU_some, ↓condE_true, ↓condE_false, ↓pickE_true, ↓pickE_false, ↓pickE_or, ↓pickE_and, ↓grdE_true, ↓grdE_false, ↓grdE_tf, ↓grdE_ft, ↓grdE_undef, ↓nilE_pt, ↓thenK_normal, ↓thenK_exit, ↓thenK_ret, ↓thenK_goto, ↓thenK_panic, ↓blockK_exit, ↓blockK_normal, ↓blockK_ret, ↓blockK_goto, ↓blockK_panic, ↓loopK_normal, ↓loopK_exit, ↓loopK_ret, ↓loopK_goto, ↓loopK_panic, ↓topK_ret, ↓topK_normal, ↓topK_panic, ↓resVs_nil, ↓resVs_tmp, ↓resVs_cell, tup_one, tup_nil, tup_two, put_get, argE_get, ↓takeE_def, ↓heldE_nil, ↓heldE_cons, qNil_pt, qPick_bool, qGrd_bool, qGrd_undef, ↓letK_def, pBox_eq, pBin_add, pBin_sub, pBin_mul, pBin_eql, pBin_neq, pBin_lss, pBin_leq, pBin_gtr, pBin_geq, pUn_not, pUn_neg, eqB, neB, eqS, neS, pExtract0, pExtract1, pExtract2, max_int, min_int, sz_nw, sz_wr, sz_drew, mm_nw, fz_nw, mm_drew, fz_drew, fz_wr, sz_mkS, mm_mkS, fz_mkS, Fr.mkS, mm_wr_same, mm_wr_ne, wr_wr, bs_oneT, splice_full, gt_zero, gt_succ, gt_set, gt_bs, byte_eq0, byte_eq1, byte_n0, byte_n1, Fr.refl, Fr.nw, Fr.wr, Fr.drew, e10, e11, e14, e16, hsub, c1a, c2a, c2b, c3a, c3b, hlx, c4a, c4b]
                  exact bad (hbp.2 (.inr (.inr (.inl ⟨c3, c4⟩)))) _ _ g3 (by simp [put_get]) (by simp [put_get]) (by simp [put_get])
              · have c3a : (0 < lf) = False := eq_false c3
                have c3b : ((0 : Int) < lf) = False := eq_false (by omega)
                have c3c : ((lf : Int) = 0) = True := eq_true (by omega)
                have c3d : (lf = 0) = True := eq_true (by omega)
                by_cases c5 : 0 < n
                · have c5a : (0 < n) = True := eq_true c5
                  have c5b : ((0 : Int) < n) = True := eq_true (by omega)
                  by_cases c7 : (pay s).length = 1
                  · have c7a : (((pay s).length : Int) = 1) = True := eq_true (by omega)
                    have c7b : ((pay s).length = 1) = True := eq_true c7
                    try simp (maxDischargeDepth := 8) [↓bindV_some, ↓bindU_some, ↓condE_true, ↓condE_false, ↓pickE_true, ↓pickE_false, ↓pickE_or, ↓pickE_and, ↓grdE_true, ↓grdE_false, ↓grdE_tf, ↓grdE_ft, ↓grdE_undef, ↓nilE_pt, ↓thenK_normal, ↓thenK_exit, ↓thenK_ret, ↓thenK_goto, ↓thenK_panic, ↓blockK_exit, ↓blockK_normal, ↓blockK_ret, ↓blockK_goto, ↓blockK_panic, ↓loopK_normal, ↓loopK_exit, ↓loopK_ret, ↓loopK_goto, ↓loopK_panic, ↓topK_ret, ↓topK_normal, ↓topK_panic, ↓resVs_nil, ↓resVs_tmp, ↓resVs_cell, tup_one, tup_nil, tup_two, put_get, argE_get, ↓takeE_def, ↓heldE_nil, ↓heldE_cons, qNil_pt, qPick_bool, qGrd_bool, qGrd_undef, ↓letK_def, pBox_eq, pBin_add, pBin_sub, pBin_mul, pBin_eql, pBin_neq, pBin_lss, pBin_leq, pBin_gtr, pBin_geq, pUn_not, pUn_neg, eqB, neB, eqS, neS, pExtract0, pExtract1, pExtract2, max_int, min_int, sz_nw, sz_wr, sz_drew, mm_nw, fz_nw, mm_drew, fz_drew, fz_wr, sz_mkS, mm_mkS, fz_mkS, Fr.mkS, mm_wr_same, mm_wr_ne, wr_wr, bs_oneT, splice_full, gt_zero, gt_succ, gt_set, gt_bs, byte_eq0, byte_eq1, byte_n0, byte_n1, Fr.refl, Fr.nw, Fr.wr, Fr.drew, e10, e11, e14, e16, hsub, c1a, c2a, c2b, c3a, c3b, c3c, c3d, hlx, c5a, c5b, c7a, c7b]
                    exact bad (hbp.2 (.inr (.inr (.inr ⟨c5, by omega, c7⟩)))) _ _ g3 (by simp [put_get]) (by simp [put_get]) (by simp [put_get])
                  · have c7a : (((pay s).length : Int) = 1) = False := eq_false (by omega)
                    have c7b : ((pay s).length = 1) = False := eq_false c7
                    try simp (maxDischargeDepth := 8) [↓bindV_some, ↓bindU_some, ↓condE_true, ↓condE_false, ↓pickE_true, ↓pickE_false, ↓pickE_or, ↓pickE_and, ↓grdE_true, ↓grdE_false, ↓grdE_tf, ↓grdE_ft, ↓grdE_undef, ↓nilE_pt, ↓thenK_normal, ↓thenK_exit, ↓thenK_ret, ↓thenK_goto, ↓thenK_panic, ↓blockK_exit, ↓blockK_normal, ↓blockK_ret, ↓blockK_goto, ↓blockK_panic, ↓loopK_normal, ↓loopK_exit, ↓loopK_ret, ↓loopK_goto, ↓loopK_panic, ↓topK_ret, ↓topK_normal, ↓topK_panic, ↓resVs_nil, ↓resVs_tmp, ↓resVs_cell, tup_one, tup_nil, tup_two, put_get, argE_get, ↓takeE_def, ↓heldE_nil, ↓heldE_cons, qNil_pt, qPick_bool, qGrd_bool, qGrd_undef, ↓letK_def, pBox_eq, pBin_add, pBin_sub, pBin_mul, pBin_eql, pBin_neq, pBin_lss, pBin_leq, pBin_gtr, pBin_geq, pUn_not, pUn_neg, eqB, neB, eqS, neS, pExtract0, pExtract1, pExtract2, max_int, min_int, sz_nw, sz_wr, sz_drew, mm_nw, fz_nw, mm_drew, fz_drew, fz_wr, sz_mkS, mm_mkS, fz_mkS, Fr.mkS, mm_wr_same, mm_wr_ne, wr_wr, bs_oneT, splice_full, gt_zero, gt_succ, gt_set, gt_bs, byte_eq0, byte_eq1, byte_n0, byte_n1, Fr.refl, Fr.nw, Fr.wr, Fr.drew, e9, e10, e11, e14, e16, hsub, c1a, c2a, c2b, c3a, c3b, c3c, c3d, hlx, c5a, c5b, c7a, c7b, hS, hrun, hw1, -Int.natCast_add]
                    exact ret (by omega) (by rw [hbp]; omega) _ (by simp [put_get]) (by simp [put_get]) (by simp [put_get])
                · have c5a : (0 < n) = False := eq_false c5
                  have c5b : ((0 : Int) < n) = False := eq_false (by omega)
                  try simp (maxDischargeDepth := 8) [↓bindV_some, ↓bindU_some, ↓condE_true, ↓condE_false, ↓pickE_true, ↓pickE_false, ↓pickE_or, ↓pickE_and, ↓grdE_true, ↓grdE_false, ↓grdE_tf, ↓grdE_ft, ↓grdE_undef, ↓nilE_pt, ↓thenK_normal, ↓thenK_exit, ↓thenK_ret, ↓thenK_goto, ↓thenK_panic, ↓blockK_exit, ↓blockK_normal, ↓blockK_ret, ↓blockK_goto, ↓blockK_panic, ↓loopK_normal, ↓loopK_exit, ↓loopK_ret, ↓loopK_goto, ↓loopK_panic, ↓topK_ret, ↓topK_normal, ↓topK_panic, ↓resVs_nil, ↓resVs_tmp, ↓resVs_cell, tup_one, tup_nil, tup_two, put_get, argE_get, ↓takeE_def, ↓heldE_nil, ↓heldE_cons, qNil_pt, qPick_bool, qGrd_bool, qGrd_undef, ↓letK_def, pBox_eq, pBin_add, pBin_sub, pBin_mul, pBin_eql, pBin_neq, pBin_lss, pBin_leq, pBin_gtr, pBin_geq, pUn_not, pUn_neg, eqB, neB, eqS, neS, pExtract0, pExtract1, pExtract2, max_int, min_int, sz_nw, sz_wr, sz_drew, mm_nw, fz_nw, mm_drew, fz_drew, fz_wr, sz_mkS, mm_mkS, fz_mkS, Fr.mkS, mm_wr_same, mm_wr_ne, wr_wr, bs_oneT, splice_full, gt_zero, gt_succ, gt_set, gt_bs, byte_eq0, byte_eq1, byte_n0, byte_n1, Fr.refl, Fr.nw, Fr.wr, Fr.drew, e9, e10, e11, e14, e16, hsub, c1a, c2a, c2b, c3a, c3b, c3c, c3d, hlx, c5a, c5b, hS, hrun, hw1, -Int.natCast_add]
                  exact ret (by omega) (by rw [hbp]; omega) _ (by simp [put_get]) (by simp [put_get]) (by simp [put_get])
          · have c1a : ((lf : Int) = d) = False := eq_false c1
            try simp (maxDischargeDepth := 8) [↓bindV_some, ↓bindU_some, ↓condE_true, ↓condE_false, ↓pickE_true, ↓pickE_false, ↓pickE_or, ↓pickE_and, ↓grdE_true, ↓grdE_false, ↓grdE_tf, ↓grdE_ft, ↓grdE_undef, ↓nilE_pt, ↓thenK_normal, ↓thenK_exit, ↓thenK_ret, ↓thenK_goto, ↓thenK_panic, ↓blockK_exit, ↓blockK_normal, ↓blockK_ret, ↓blockK_goto, ↓blockK_panic, ↓loopK_normal, ↓loopK_exit, ↓loopK_ret, ↓loopK_goto, ↓loopK_panic, ↓topK_ret, ↓topK_normal, ↓topK_panic, ↓resVs_nil, ↓resVs_tmp, ↓resVs_cell, tup_one, tup_nil, tup_two, put_get, argE_get, ↓takeE_def, ↓heldE_nil, ↓heldE_cons, qNil_pt, qPick_bool, qGrd_bool, qGrd_undef, ↓letK_def, pBox_eq, pBin_add, pBin_sub, pBin_mul, pBin_eql, pBin_neq, pBin_lss, pBin_leq, pBin_gtr, pBin_geq, pUn_not, pUn_neg, eqB, neB, eqS, neS, pExtract0, pExtract1, pExtract2, max_int, min_int, sz_nw, sz_wr, sz_drew, mm_nw, fz_nw, mm_drew, fz_drew, fz_wr, sz_mkS, mm_mkS, fz_mkS, Fr.mkS, mm_wr_same, mm_wr_ne, wr_wr, bs_oneT, splice_full, gt_zero, gt_succ, gt_set, gt_bs, byte_eq0, byte_eq1, byte_n0, byte_n1, Fr.refl, Fr.nw, Fr.wr, Fr.drew, e10, e11, e16, hsub, c1a]
            exact bad (hbp.2 (.inl c1)) _ _ g3 (by simp [put_get]) (by simp [put_get]) (by simp [put_get])
      · rw [if_neg (fun hh => hp1 hh.2)] at hgo
        have p1 : (((pay s).length : Int) < 1) = True := eq_true (by omega)
        have p2 : ((pay s).length < 1) = True := eq_true (by omega)
        try simp (maxDischargeDepth := 8) [↓bindV_some, ↓bindU_some, ↓condE_true, ↓condE_false, ↓pickE_true, ↓pickE_false, ↓pickE_or, ↓pickE_and, ↓grdE_true, ↓grdE_false, ↓grdE_tf, ↓grdE_ft, ↓grdE_undef, ↓nilE_pt, ↓thenK_normal, ↓thenK_exit, ↓thenK_ret, ↓thenK_goto, ↓thenK_panic, ↓blockK_exit, ↓blockK_normal, ↓blockK_ret, ↓blockK_goto, ↓blockK_panic, ↓loopK_normal, ↓loopK_exit, ↓loopK_ret, ↓loopK_goto, ↓loopK_panic, ↓topK_ret, ↓topK_normal, ↓topK_panic, ↓resVs_nil, ↓resVs_tmp, ↓resVs_cell, tup_one, tup_nil, tup_two, put_get, argE_get, ↓takeE_def, ↓heldE_nil, ↓heldE_cons, qNil_pt, qPick_bool, qGrd_bool, qGrd_undef, ↓letK_def, pBox_eq, pBin_add, pBin_sub, pBin_mul, pBin_eql, pBin_neq, pBin_lss, pBin_leq, pBin_gtr, pBin_geq, pUn_not, pUn_neg, eqB, neB, eqS, neS, pExtract0, pExtract1, pExtract2, max_int, min_int, sz_nw, sz_wr, sz_drew, mm_nw, fz_nw, mm_drew, fz_drew, fz_wr, sz_mkS, mm_mkS, fz_mkS, Fr.mkS, mm_wr_same, mm_wr_ne, wr_wr, bs_oneT, splice_full, gt_zero, gt_succ, gt_set, gt_bs, byte_eq0, byte_eq1, byte_n0, byte_n1, Fr.refl, Fr.nw, Fr.wr, Fr.drew, hwh, hlx, p1, p2]
        exact hR _ _ (.slice none 0 0) (i64 0) g3 (by simp [put_get]) (by simp [put_get]) (by simp [put_get]) (.inl ⟨hgo.symm, rfl⟩)
    · rw [if_neg (fun hh => hwh hh.1)] at hgo
      have hx := hx2 hwh
      subst hx
      try simp (maxDischargeDepth := 8) [↓bindV_some, ↓bindU_some, ↓condE_true, ↓condE_false, ↓pickE_true, ↓pickE_false, ↓pickE_or, ↓pickE_and, ↓grdE_true, ↓grdE_false, ↓grdE_tf, ↓grdE_ft, ↓grdE_undef, ↓nilE_pt, ↓thenK_normal, ↓thenK_exit, ↓thenK_ret, ↓thenK_goto, ↓thenK_panic, ↓blockK_exit, ↓blockK_normal, ↓blockK_ret, ↓blockK_goto, ↓blockK_panic, ↓loopK_normal, ↓loopK_exit, ↓loopK_ret, ↓loopK_goto, ↓loopK_panic, ↓topK_ret, ↓topK_normal, ↓topK_panic, ↓resVs_nil, ↓resVs_tmp, ↓resVs_cell, tup_one, tup_nil, tup_two, put_get, argE_get, ↓takeE_def, ↓heldE_nil, ↓heldE_cons, qNil_pt, qPick_bool, qGrd_bool, qGrd_undef, ↓letK_def, pBox_eq, pBin_add, pBin_sub, pBin_mul, pBin_eql, pBin_neq, pBin_lss, pBin_leq, pBin_gtr, pBin_geq, pUn_not, pUn_neg, eqB, neB, eqS, neS, pExtract0, pExtract1, pExtract2, max_int, min_int, sz_nw, sz_wr, sz_drew, mm_nw, fz_nw, mm_drew, fz_drew, fz_wr, sz_mkS, mm_mkS, fz_mkS, Fr.mkS, mm_wr_same, mm_wr_ne, wr_wr, bs_oneT, splice_full, gt_zero, gt_succ, gt_set, gt_bs, byte_eq0, byte_eq1, byte_n0, byte_n1, Fr.refl, Fr.nw, Fr.wr, Fr.drew, hwh]
      exact hR _ _ (.slice none 0 0) (i64 0) g3 (by simp [put_get]) (by simp [put_get]) (by simp [put_get]) (.inl ⟨hgo.symm, rfl⟩)
  · have hl1 : (q < ln) = False := eq_false hlt
    have hl2 : ((q : Int) < ln) = False := eq_false (by omega)
    rw [← hq, areaS_end (by omega), oneGo] at hgo
    try simp (maxDischargeDepth := 8) [↓bindV_some, ↓bindU_some, ↓condE_true, ↓condE_false, ↓pickE_true, ↓pickE_false, ↓pickE_or, ↓pickE_and, ↓grdE_true, ↓grdE_false, ↓grdE_tf, ↓grdE_ft, ↓grdE_undef, ↓nilE_pt, ↓thenK_normal, ↓thenK_exit, ↓thenK_ret, ↓thenK_goto, ↓thenK_panic, ↓blockK_exit, ↓blockK_normal, ↓blockK_ret, ↓blockK_goto, ↓blockK_panic, ↓loopK_normal, ↓loopK_exit, ↓loopK_ret, ↓loopK_goto, ↓loopK_panic, ↓topK_ret, ↓topK_normal, ↓topK_panic, ↓resVs_nil, ↓resVs_tmp, ↓resVs_cell, tup_one, tup_nil, tup_two, put_get, argE_get, ↓takeE_def, ↓heldE_nil, ↓heldE_cons, qNil_pt, qPick_bool, qGrd_bool, qGrd_undef, ↓letK_def, pBox_eq, pBin_add, pBin_sub, pBin_mul, pBin_eql, pBin_neq, pBin_lss, pBin_leq, pBin_gtr, pBin_geq, pUn_not, pUn_neg, eqB, neB, eqS, neS, pExtract0, pExtract1, pExtract2, max_int, min_int, sz_nw, sz_wr, sz_drew, mm_nw, fz_nw, mm_drew, fz_drew, fz_wr, sz_mkS, mm_mkS, fz_mkS, Fr.mkS, mm_wr_same, mm_wr_ne, wr_wr, bs_oneT, splice_full, gt_zero, gt_succ, gt_set, gt_bs, byte_eq0, byte_eq1, byte_n0, byte_n1, Fr.refl, Fr.nw, Fr.wr, Fr.drew, letK_def, e0, e2, e4, e11, m4, hsz, h1, hl1, hl2]
    exact hX _ _ hf hgo.symm
theorem one_spec {w : World} {b : Nat} {D : DD} {F : List Nat} {fr ln at_ : Nat} (h : IsD w b D F) (hd : D.down = false) (hfit : fr + ln ≤ D.firm.length) (hat : at_ ≤ ln) :
    Ret P 73 #[pt b 0, ar fr ln, i64 at_] w fun x w' => OneR (sz w) (oneM ((areaS D fr ln).drop at_)) x w' ∧ Fr [] w w' := by
  refine F73ok ?_
  unfold F73 ar
  try simp (maxDischargeDepth := 8) [↓bindV_some, ↓bindU_some, ↓condE_true, ↓condE_false, ↓pickE_true, ↓pickE_false, ↓pickE_or, ↓pickE_and, ↓grdE_true, ↓grdE_false, ↓grdE_tf, ↓grdE_ft, ↓grdE_undef, ↓nilE_pt, ↓thenK_normal, ↓thenK_exit, ↓thenK_ret, ↓thenK_goto, ↓thenK_panic, ↓blockK_exit, ↓blockK_normal, ↓blockK_ret, ↓blockK_goto, ↓blockK_panic, ↓loopK_normal, ↓loopK_exit, ↓loopK_ret, ↓loopK_goto, ↓loopK_panic, ↓topK_ret, ↓topK_normal, ↓topK_panic, ↓resVs_nil, ↓resVs_tmp, ↓resVs_cell, tup_one, tup_nil, tup_two, put_get, argE_get, ↓takeE_def, ↓heldE_nil, ↓heldE_cons, qNil_pt, qPick_bool, qGrd_bool, qGrd_undef, ↓letK_def, pBox_eq, pBin_add, pBin_sub, pBin_mul, pBin_eql, pBin_neq, pBin_lss, pBin_leq, pBin_gtr, pBin_geq, pUn_not, pUn_neg, eqB, neB, eqS, neS, pExtract0, pExtract1, pExtract2, max_int, min_int, sz_nw, sz_wr, sz_drew, mm_nw, fz_nw, mm_drew, fz_drew, fz_wr, sz_mkS, mm_mkS, fz_mkS, Fr.mkS, mm_wr_same, mm_wr_ne, wr_wr, bs_oneT, splice_full, gt_zero, gt_succ, gt_set, gt_bs, byte_eq0, byte_eq1, byte_n0, byte_n1, Fr.refl, Fr.nw, Fr.wr, Fr.drew]
  refine loopE_of (OneI w b D F fr ln at_) (ln - at_) ⟨0, 0, [], .slice none 0 0, rfl, (Fr.refl [] w).nw _ _, by omega, by simp, hat, rfl, World.ownsRow_nil _ _ _ _, by simp [sz_nw, sz_wr, sz_drew, mm_nw, fz_nw, mm_drew, fz_drew, fz_wr, sz_mkS, mm_mkS, fz_mkS, Fr.mkS, mm_wr_same, mm_wr_ne, wr_wr, bs_oneT, splice_full, gt_zero, gt_succ, gt_set, gt_bs, byte_eq0, byte_eq1, byte_n0, byte_n1, Fr.refl, Fr.nw, Fr.wr, Fr.drew], by simp [sz_nw, sz_wr, sz_drew, mm_nw, fz_nw, mm_drew, fz_drew, fz_wr, sz_mkS, mm_mkS, fz_mkS, Fr.mkS, mm_wr_same, mm_wr_ne, wr_wr, bs_oneT, splice_full, gt_zero, gt_succ, gt_set, gt_bs, byte_eq0, byte_eq1, byte_n0, byte_n1, Fr.refl, Fr.nw, Fr.wr, Fr.drew], by simp [Value.ownBlock], by simp [put_get, argE_get], by simp [put_get, argE_get], by simp [put_get], by simp [put_get], by simp [put_get], by simp [put_get]⟩ ?_
  intro m e w1 hI
  refine one_step h hd hfit hI (fun m' e' w' hlt hI' => ⟨m', hlt, hI'⟩) (fun e' w' hfr hno => ?_) (fun e' w' x6 x7 hfr a6 a7 a8 hR => ?_)
  · try simp (maxDischargeDepth := 8) [↓bindV_some, ↓bindU_some, ↓condE_true, ↓condE_false, ↓pickE_true, ↓pickE_false, ↓pickE_or, ↓pickE_and, ↓grdE_true, ↓grdE_false, ↓grdE_tf, ↓grdE_ft, ↓grdE_undef, ↓nilE_pt, ↓thenK_normal, ↓thenK_exit, ↓thenK_ret, ↓thenK_goto, ↓thenK_panic, ↓blockK_exit, ↓blockK_normal, ↓blockK_ret, ↓blockK_goto, ↓blockK_panic, ↓loopK_normal, ↓loopK_exit, ↓loopK_ret, ↓loopK_goto, ↓loopK_panic, ↓topK_ret, ↓topK_normal, ↓topK_panic, ↓resVs_nil, ↓resVs_tmp, ↓resVs_cell, tup_one, tup_nil, tup_two, put_get, argE_get, ↓takeE_def, ↓heldE_nil, ↓heldE_cons, qNil_pt, qPick_bool, qGrd_bool, qGrd_undef, ↓letK_def, pBox_eq, pBin_add, pBin_sub, pBin_mul, pBin_eql, pBin_neq, pBin_lss, pBin_leq, pBin_gtr, pBin_geq, pUn_not, pUn_neg, eqB, neB, eqS, neS, pExtract0, pExtract1, pExtract2, max_int, min_int, sz_nw, sz_wr, sz_drew, mm_nw, fz_nw, mm_drew, fz_drew, fz_wr, sz_mkS, mm_mkS, fz_mkS, Fr.mkS, mm_wr_same, mm_wr_ne, wr_wr, bs_oneT, splice_full, gt_zero, gt_succ, gt_set, gt_bs, byte_eq0, byte_eq1, byte_n0, byte_n1, Fr.refl, Fr.nw, Fr.wr, Fr.drew]
    exact ⟨.inl ⟨hno, rfl⟩, hfr⟩
  · try simp (maxDischargeDepth := 8) [↓bindV_some, ↓bindU_some, ↓condE_true, ↓condE_false, ↓pickE_true, ↓pickE_false, ↓pickE_or, ↓pickE_and, ↓grdE_true, ↓grdE_false, ↓grdE_tf, ↓grdE_ft, ↓grdE_undef, ↓nilE_pt, ↓thenK_normal, ↓thenK_exit, ↓thenK_ret, ↓thenK_goto, ↓thenK_panic, ↓blockK_exit, ↓blockK_normal, ↓blockK_ret, ↓blockK_goto, ↓blockK_panic, ↓loopK_normal, ↓loopK_exit, ↓loopK_ret, ↓loopK_goto, ↓loopK_panic, ↓topK_ret, ↓topK_normal, ↓topK_panic, ↓resVs_nil, ↓resVs_tmp, ↓resVs_cell, tup_one, tup_nil, tup_two, put_get, argE_get, ↓takeE_def, ↓heldE_nil, ↓heldE_cons, qNil_pt, qPick_bool, qGrd_bool, qGrd_undef, ↓letK_def, pBox_eq, pBin_add, pBin_sub, pBin_mul, pBin_eql, pBin_neq, pBin_lss, pBin_leq, pBin_gtr, pBin_geq, pUn_not, pUn_neg, eqB, neB, eqS, neS, pExtract0, pExtract1, pExtract2, max_int, min_int, sz_nw, sz_wr, sz_drew, mm_nw, fz_nw, mm_drew, fz_drew, fz_wr, sz_mkS, mm_mkS, fz_mkS, Fr.mkS, mm_wr_same, mm_wr_ne, wr_wr, bs_oneT, splice_full, gt_zero, gt_succ, gt_set, gt_bs, byte_eq0, byte_eq1, byte_n0, byte_n1, Fr.refl, Fr.nw, Fr.wr, Fr.drew, a6, a7, a8]
    exact ⟨hR, hfr⟩
end Go.Proofs.Yticncfkpfpkfoaa
