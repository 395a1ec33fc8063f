/- Append, Clear, Open, and the laws' same and big. -/
import Derived.Test.YticncfkpfpkfoaaRollD
set_option linter.unusedVariables false
set_option linter.unusedSimpArgs false
namespace Go.Proofs.Yticncfkpfpkfoaa
open Go

/-- What 'Append' does: the disk, the error, how many sectors are used. -/
def appM (fr ln at_ : Nat) (B : List UInt8) (D : DD) : DD × Int × Nat :=
  if D.down = true then (D, 14, at_) else if 3840 < B.length then (D, 3, at_) else if ln - at_ < need B.length then (D, 8, at_)
  else ((appGo (fr + at_) B (need B.length) 0 D).1, (appGo (fr + at_) B (need B.length) 0 D).2, if (appGo (fr + at_) B (need B.length) 0 D).2 = 0 then at_ + need B.length else at_)
structure AppR (w : World) (r b : Nat) (fr ln : Nat) (F : List Nat) (G : DD × Int × Nat) (x : Value) (w' : World) (F' : List Nat) : Prop where
  val : x = i64 G.2.1
  isd : IsD w' b G.1 F'
  new : ∀ k ∈ F', k ∈ F ∨ sz w ≤ k
  fr' : Fr (r :: F) w w'
  roll : IsRoll w' r b fr ln (G.2.2 : Int)
  out : r ∉ F'
theorem append_spec {w : World} {r b : Nat} {v : Value} {B : List UInt8} {fr ln at_ : Nat} {D : DD} {F : List Nat} (hro : IsRoll w r b fr ln at_) (hd : IsD w b D F) (hrF : r ∉ F) (hv : RdV w v B.length (bs B)) (hvF : 0 < B.length → ∀ k, v.ownBlock = some k → k ∉ F)
    (hB : B.length ≤ 5000) (hfit : fr + ln ≤ 4096) (hat : at_ ≤ ln) (hm : D.pend.length + 64 < 1000000) (hwr : D.writes + 64 < 4611686018427387904) :
    Ret P 47 #[pt r 0, v] w fun x w' => ∃ F', AppR w r b fr ln F (appM fr ln at_ B D) x w' F' := by
  refine F47ok ?_
  unfold F47
  have hm4 := hro.1
  have hrs := hro.lt
  obtain ⟨va, vc, hvv⟩ := sl_of hv
  have hlv : ∀ w, pBuiltin P .len #[22] 3 [v] w = some (i64 B.length, w) := fun w => by rw [hvv]; exact len22
  try simp (maxDischargeDepth := 8) [↓bindV_some, ↓bindU_some, ↓condE_true, ↓condE_false, ↓pickE_true, ↓pickE_false, ↓pickE_or, ↓pickE_and, ↓grdE_true, ↓grdE_false, ↓grdE_tf, ↓grdE_ft, ↓grdE_undef, ↓nilE_pt, ↓thenK_normal, ↓thenK_exit, ↓thenK_ret, ↓thenK_goto, ↓thenK_panic, ↓blockK_exit, ↓blockK_normal, ↓blockK_ret, ↓blockK_goto, ↓blockK_panic, ↓loopK_normal, ↓loopK_exit, ↓loopK_ret, ↓loopK_goto, ↓loopK_panic, ↓topK_ret, ↓topK_normal, ↓topK_panic, ↓resVs_nil, ↓resVs_tmp, ↓resVs_cell, tup_one, tup_nil, tup_two, put_get, argE_get, ↓takeE_def, ↓heldE_nil, ↓heldE_cons, qNil_pt, qPick_bool, qGrd_bool, qGrd_undef, ↓letK_def, pBox_eq, pBin_add, pBin_sub, pBin_mul, pBin_eql, pBin_neq, pBin_lss, pBin_leq, pBin_gtr, pBin_geq, pUn_not, pUn_neg, eqB, neB, eqS, neS, pExtract0, pExtract1, pExtract2, max_int, min_int, sz_nw, sz_wr, sz_drew, mm_nw, fz_nw, mm_drew, fz_drew, fz_wr, sz_mkS, mm_mkS, fz_mkS, Fr.mkS, mm_wr_same, mm_wr_ne, wr_wr, bs_oneT, splice_full, gt_zero, gt_succ, gt_set, gt_bs, byte_eq0, byte_eq1, byte_n0, byte_n1, Fr.refl, Fr.nw, Fr.wr, Fr.drew, hm4, hrs]
  refine (down_spec hd).call ?_
  rintro _ w1 ⟨rfl, f1⟩
  cases hdn : D.down with
  | true =>
    have hG : appM fr ln at_ B D = (D, 14, at_) := by unfold appM; rw [if_pos hdn]
    try simp (maxDischargeDepth := 8) [↓bindV_some, ↓bindU_some, ↓condE_true, ↓condE_false, ↓pickE_true, ↓pickE_false, ↓pickE_or, ↓pickE_and, ↓grdE_true, ↓grdE_false, ↓grdE_tf, ↓grdE_ft, ↓grdE_undef, ↓nilE_pt, ↓thenK_normal, ↓thenK_exit, ↓thenK_ret, ↓thenK_goto, ↓thenK_panic, ↓blockK_exit, ↓blockK_normal, ↓blockK_ret, ↓blockK_goto, ↓blockK_panic, ↓loopK_normal, ↓loopK_exit, ↓loopK_ret, ↓loopK_goto, ↓loopK_panic, ↓topK_ret, ↓topK_normal, ↓topK_panic, ↓resVs_nil, ↓resVs_tmp, ↓resVs_cell, tup_one, tup_nil, tup_two, put_get, argE_get, ↓takeE_def, ↓heldE_nil, ↓heldE_cons, qNil_pt, qPick_bool, qGrd_bool, qGrd_undef, ↓letK_def, pBox_eq, pBin_add, pBin_sub, pBin_mul, pBin_eql, pBin_neq, pBin_lss, pBin_leq, pBin_gtr, pBin_geq, pUn_not, pUn_neg, eqB, neB, eqS, neS, pExtract0, pExtract1, pExtract2, max_int, min_int, sz_nw, sz_wr, sz_drew, mm_nw, fz_nw, mm_drew, fz_drew, fz_wr, sz_mkS, mm_mkS, fz_mkS, Fr.mkS, mm_wr_same, mm_wr_ne, wr_wr, bs_oneT, splice_full, gt_zero, gt_succ, gt_set, gt_bs, byte_eq0, byte_eq1, byte_n0, byte_n1, Fr.refl, Fr.nw, Fr.wr, Fr.drew]
    exact ⟨F, by rw [hG], by rw [hG]; exact hd.fr0 f1, fun k hk => .inl hk, f1.mono (by simp), by rw [hG]; exact hro.fr f1 (by simp), hrF⟩
  | false =>
    have hdn' : ¬ D.down = true := by simp [hdn]
    by_cases hlong : 3840 < B.length
    · have hG : appM fr ln at_ B D = (D, 3, at_) := by unfold appM; rw [if_neg hdn', if_pos hlong]
      have c1 : ((3840 : Int) < B.length) = True := eq_true (by omega)
      have c2 : (3840 < B.length) = True := eq_true hlong
      try simp (maxDischargeDepth := 8) [↓bindV_some, ↓bindU_some, ↓condE_true, ↓condE_false, ↓pickE_true, ↓pickE_false, ↓pickE_or, ↓pickE_and, ↓grdE_true, ↓grdE_false, ↓grdE_tf, ↓grdE_ft, ↓grdE_undef, ↓nilE_pt, ↓thenK_normal, ↓thenK_exit, ↓thenK_ret, ↓thenK_goto, ↓thenK_panic, ↓blockK_exit, ↓blockK_normal, ↓blockK_ret, ↓blockK_goto, ↓blockK_panic, ↓loopK_normal, ↓loopK_exit, ↓loopK_ret, ↓loopK_goto, ↓loopK_panic, ↓topK_ret, ↓topK_normal, ↓topK_panic, ↓resVs_nil, ↓resVs_tmp, ↓resVs_cell, tup_one, tup_nil, tup_two, put_get, argE_get, ↓takeE_def, ↓heldE_nil, ↓heldE_cons, qNil_pt, qPick_bool, qGrd_bool, qGrd_undef, ↓letK_def, pBox_eq, pBin_add, pBin_sub, pBin_mul, pBin_eql, pBin_neq, pBin_lss, pBin_leq, pBin_gtr, pBin_geq, pUn_not, pUn_neg, eqB, neB, eqS, neS, pExtract0, pExtract1, pExtract2, max_int, min_int, sz_nw, sz_wr, sz_drew, mm_nw, fz_nw, mm_drew, fz_drew, fz_wr, sz_mkS, mm_mkS, fz_mkS, Fr.mkS, mm_wr_same, mm_wr_ne, wr_wr, bs_oneT, splice_full, gt_zero, gt_succ, gt_set, gt_bs, byte_eq0, byte_eq1, byte_n0, byte_n1, Fr.refl, Fr.nw, Fr.wr, Fr.drew, hlv, c1, c2]
      exact ⟨F, by rw [hG], by rw [hG]; exact hd.fr0 f1, fun k hk => .inl hk, f1.mono (by simp), by rw [hG]; exact hro.fr f1 (by simp), hrF⟩
    · have c1 : ((3840 : Int) < B.length) = False := eq_false (by omega)
      have c2 : (3840 < B.length) = False := eq_false hlong
      try simp (maxDischargeDepth := 8) [↓bindV_some, ↓bindU_some, ↓condE_true, ↓condE_false, ↓pickE_true, ↓pickE_false, ↓pickE_or, ↓pickE_and, ↓grdE_true, ↓grdE_false, ↓grdE_tf, ↓grdE_ft, ↓grdE_undef, ↓nilE_pt, ↓thenK_normal, ↓thenK_exit, ↓thenK_ret, ↓thenK_goto, ↓thenK_panic, ↓blockK_exit, ↓blockK_normal, ↓blockK_ret, ↓blockK_goto, ↓blockK_panic, ↓loopK_normal, ↓loopK_exit, ↓loopK_ret, ↓loopK_goto, ↓loopK_panic, ↓topK_ret, ↓topK_normal, ↓topK_panic, ↓resVs_nil, ↓resVs_tmp, ↓resVs_cell, tup_one, tup_nil, tup_two, put_get, argE_get, ↓takeE_def, ↓heldE_nil, ↓heldE_cons, qNil_pt, qPick_bool, qGrd_bool, qGrd_undef, ↓letK_def, pBox_eq, pBin_add, pBin_sub, pBin_mul, pBin_eql, pBin_neq, pBin_lss, pBin_leq, pBin_gtr, pBin_geq, pUn_not, pUn_neg, eqB, neB, eqS, neS, pExtract0, pExtract1, pExtract2, max_int, min_int, sz_nw, sz_wr, sz_drew, mm_nw, fz_nw, mm_drew, fz_drew, fz_wr, sz_mkS, mm_mkS, fz_mkS, Fr.mkS, mm_wr_same, mm_wr_ne, wr_wr, bs_oneT, splice_full, gt_zero, gt_succ, gt_set, gt_bs, byte_eq0, byte_eq1, byte_n0, byte_n1, Fr.refl, Fr.nw, Fr.wr, Fr.drew, hlv, c1, c2]
      refine (rneed_spec (n := B.length) (by omega)).call ?_
      rintro _ w2 ⟨rfl, f2⟩
      have hro2 := (hro.fr f1 (by simp)).fr f2 (by simp)
      try simp (maxDischargeDepth := 8) [↓bindV_some, ↓bindU_some, ↓condE_true, ↓condE_false, ↓pickE_true, ↓pickE_false, ↓pickE_or, ↓pickE_and, ↓grdE_true, ↓grdE_false, ↓grdE_tf, ↓grdE_ft, ↓grdE_undef, ↓nilE_pt, ↓thenK_normal, ↓thenK_exit, ↓thenK_ret, ↓thenK_goto, ↓thenK_panic, ↓blockK_exit, ↓blockK_normal, ↓blockK_ret, ↓blockK_goto, ↓blockK_panic, ↓loopK_normal, ↓loopK_exit, ↓loopK_ret, ↓loopK_goto, ↓loopK_panic, ↓topK_ret, ↓topK_normal, ↓topK_panic, ↓resVs_nil, ↓resVs_tmp, ↓resVs_cell, tup_one, tup_nil, tup_two, put_get, argE_get, ↓takeE_def, ↓heldE_nil, ↓heldE_cons, qNil_pt, qPick_bool, qGrd_bool, qGrd_undef, ↓letK_def, pBox_eq, pBin_add, pBin_sub, pBin_mul, pBin_eql, pBin_neq, pBin_lss, pBin_leq, pBin_gtr, pBin_geq, pUn_not, pUn_neg, eqB, neB, eqS, neS, pExtract0, pExtract1, pExtract2, max_int, min_int, sz_nw, sz_wr, sz_drew, mm_nw, fz_nw, mm_drew, fz_drew, fz_wr, sz_mkS, mm_mkS, fz_mkS, Fr.mkS, mm_wr_same, mm_wr_ne, wr_wr, bs_oneT, splice_full, gt_zero, gt_succ, gt_set, gt_bs, byte_eq0, byte_eq1, byte_n0, byte_n1, Fr.refl, Fr.nw, Fr.wr, Fr.drew]
      refine (left_spec hro2 (by omega) (by omega) (by omega)).call ?_
      rintro _ w3 ⟨rfl, f3⟩
      have q3 := (f1.trans0 f2).trans0 f3
      have hro3 := hro2.fr f3 (by simp)
      have hd3 := hd.fr0 q3
      have hn64 : need B.length ≤ 64 := by unfold need; omega
      obtain ⟨lf, hlf⟩ : ∃ lf : Nat, lf = ln - at_ := ⟨_, rfl⟩
      have hlfi : (ln : Int) - (at_ : Int) = (lf : Int) := by omega
      rw [hlfi]
      by_cases hfull : lf < need B.length
      · have hG : appM fr ln at_ B D = (D, 8, at_) := by unfold appM; rw [if_neg hdn', if_neg hlong, if_pos (by omega)]
        have c3 : ((lf : Int) < ((need B.length : Nat) : Int)) = True := eq_true (by omega)
        have c4 : (lf < need B.length) = True := eq_true hfull
        try simp (maxDischargeDepth := 8) [↓bindV_some, ↓bindU_some, ↓condE_true, ↓condE_false, ↓pickE_true, ↓pickE_false, ↓pickE_or, ↓pickE_and, ↓grdE_true, ↓grdE_false, ↓grdE_tf, ↓grdE_ft, ↓grdE_undef, ↓nilE_pt, ↓thenK_normal, ↓thenK_exit, ↓thenK_ret, ↓thenK_goto, ↓thenK_panic, ↓blockK_exit, ↓blockK_normal, ↓blockK_ret, ↓blockK_goto, ↓blockK_panic, ↓loopK_normal, ↓loopK_exit, ↓loopK_ret, ↓loopK_goto, ↓loopK_panic, ↓topK_ret, ↓topK_normal, ↓topK_panic, ↓resVs_nil, ↓resVs_tmp, ↓resVs_cell, tup_one, tup_nil, tup_two, put_get, argE_get, ↓takeE_def, ↓heldE_nil, ↓heldE_cons, qNil_pt, qPick_bool, qGrd_bool, qGrd_undef, ↓letK_def, pBox_eq, pBin_add, pBin_sub, pBin_mul, pBin_eql, pBin_neq, pBin_lss, pBin_leq, pBin_gtr, pBin_geq, pUn_not, pUn_neg, eqB, neB, eqS, neS, pExtract0, pExtract1, pExtract2, max_int, min_int, sz_nw, sz_wr, sz_drew, mm_nw, fz_nw, mm_drew, fz_drew, fz_wr, sz_mkS, mm_mkS, fz_mkS, Fr.mkS, mm_wr_same, mm_wr_ne, wr_wr, bs_oneT, splice_full, gt_zero, gt_succ, gt_set, gt_bs, byte_eq0, byte_eq1, byte_n0, byte_n1, Fr.refl, Fr.nw, Fr.wr, Fr.drew, c3, c4]
        exact ⟨F, by rw [hG], by rw [hG]; exact hd3, fun k hk => .inl hk, q3.mono (by simp), by rw [hG]; exact hro3, hrF⟩
      · have c3 : ((lf : Int) < ((need B.length : Nat) : Int)) = False := eq_false (by omega)
        have c4 : (lf < need B.length) = False := eq_false hfull
        have hG : appM fr ln at_ B D = ((appGo (fr + at_) B (need B.length) 0 D).1, (appGo (fr + at_) B (need B.length) 0 D).2, if (appGo (fr + at_) B (need B.length) 0 D).2 = 0 then at_ + need B.length else at_) := by
          unfold appM; rw [if_neg hdn', if_neg hlong, if_neg (by omega)]
        try simp (maxDischargeDepth := 8) [↓bindV_some, ↓bindU_some, ↓condE_true, ↓condE_false, ↓pickE_true, ↓pickE_false, ↓pickE_or, ↓pickE_and, ↓grdE_true, ↓grdE_false, ↓grdE_tf, ↓grdE_ft, ↓grdE_undef, ↓nilE_pt, ↓thenK_normal, ↓thenK_exit, ↓thenK_ret, ↓thenK_goto, ↓thenK_panic, ↓blockK_exit, ↓blockK_normal, ↓blockK_ret, ↓blockK_goto, ↓blockK_panic, ↓loopK_normal, ↓loopK_exit, ↓loopK_ret, ↓loopK_goto, ↓loopK_panic, ↓topK_ret, ↓topK_normal, ↓topK_panic, ↓resVs_nil, ↓resVs_tmp, ↓resVs_cell, tup_one, tup_nil, tup_two, put_get, argE_get, ↓takeE_def, ↓heldE_nil, ↓heldE_cons, qNil_pt, qPick_bool, qGrd_bool, qGrd_undef, ↓letK_def, pBox_eq, pBin_add, pBin_sub, pBin_mul, pBin_eql, pBin_neq, pBin_lss, pBin_leq, pBin_gtr, pBin_geq, pUn_not, pUn_neg, eqB, neB, eqS, neS, pExtract0, pExtract1, pExtract2, max_int, min_int, sz_nw, sz_wr, sz_drew, mm_nw, fz_nw, mm_drew, fz_drew, fz_wr, sz_mkS, mm_mkS, fz_mkS, Fr.mkS, mm_wr_same, mm_wr_ne, wr_wr, bs_oneT, splice_full, gt_zero, gt_succ, gt_set, gt_bs, byte_eq0, byte_eq1, byte_n0, byte_n1, Fr.refl, Fr.nw, Fr.wr, Fr.drew, hlv, c3, c4]
        refine (rneed_spec (n := B.length) (by omega)).call ?_
        rintro _ w4 ⟨rfl, f4⟩
        have q4 := q3.trans0 f4
        have hro4 := hro3.fr f4 (by simp)
        have hd4 := hd.fr0 q4
        have hrl4 := hro4.lt
        refine loopE_of (ApI w4 r b v B fr ln at_ D F) (need B.length) ⟨0, D, F, rfl, by omega, hd4, Grow.refl F w4, by omega, by omega, rfl, rfl, .inl rfl, by simp [put_get, argE_get], by simp [put_get, argE_get], by simp [put_get], by simp [put_get], by simp [put_get]⟩ ?_
        intro m e w5 hI
        refine app_step hro4 hrF (hv.fr0 q4) hvF (by omega) (by omega) hat hm hwr hI (fun m' e' w' hlt hI' => ⟨m', hlt, hI'⟩) (fun e' w' D' F' hd' hg' hgo e0 e5 => ?_) (fun e' w' D' F' x hd' hg' hx hgo e4 => ?_)
        · rw [hgo] at hG
          simp only [if_true] at hG
          have hro' := hro4.fr hg'.fr hrF
          have hm' := hro'.1
          have hz' := hro'.2
          have hrs' := hro'.lt
          obtain ⟨q, hq⟩ : ∃ q, q = at_ + need B.length := ⟨_, rfl⟩
          have ha : IntKind.i64.wrap ((at_ : Int) + ((need B.length : Nat) : Int)) = (q : Int) := by rw [wrap64 (by omega) (by omega)]; omega
          have hrF' : r ∉ F' := fun hk => by
            rcases hg'.new r hk with h | h
            · exact hrF h
            · omega
          try simp (maxDischargeDepth := 8) [↓bindV_some, ↓bindU_some, ↓condE_true, ↓condE_false, ↓pickE_true, ↓pickE_false, ↓pickE_or, ↓pickE_and, ↓grdE_true, ↓grdE_false, ↓grdE_tf, ↓grdE_ft, ↓grdE_undef, ↓nilE_pt, ↓thenK_normal, ↓thenK_exit, ↓thenK_ret, ↓thenK_goto, ↓thenK_panic, ↓blockK_exit, ↓blockK_normal, ↓blockK_ret, ↓blockK_goto, ↓blockK_panic, ↓loopK_normal, ↓loopK_exit, ↓loopK_ret, ↓loopK_goto, ↓loopK_panic, ↓topK_ret, ↓topK_normal, ↓topK_panic, ↓resVs_nil, ↓resVs_tmp, ↓resVs_cell, tup_one, tup_nil, tup_two, put_get, argE_get, ↓takeE_def, ↓heldE_nil, ↓heldE_cons, qNil_pt, qPick_bool, qGrd_bool, qGrd_undef, ↓letK_def, pBox_eq, pBin_add, pBin_sub, pBin_mul, pBin_eql, pBin_neq, pBin_lss, pBin_leq, pBin_gtr, pBin_geq, pUn_not, pUn_neg, eqB, neB, eqS, neS, pExtract0, pExtract1, pExtract2, max_int, min_int, sz_nw, sz_wr, sz_drew, mm_nw, fz_nw, mm_drew, fz_drew, fz_wr, sz_mkS, mm_mkS, fz_mkS, Fr.mkS, mm_wr_same, mm_wr_ne, wr_wr, bs_oneT, splice_full, gt_zero, gt_succ, gt_set, gt_bs, byte_eq0, byte_eq1, byte_n0, byte_n1, Fr.refl, Fr.nw, Fr.wr, Fr.drew, e0, e5, hm', hz', hrs', ha]
          obtain ⟨X, hX⟩ : ∃ X, X = wr w' r [pt b 0, i64 fr, i64 ln, i64 q] := ⟨_, rfl⟩
          have fX : Fr [r] w' X := by rw [hX]; exact (Fr.refl _ _).wr (.inl (by simp)) _
          rw [show (Value.int IntKind.i64 (q : Int)) = i64 q from rfl] at *
          try rw [← hX]
          refine ⟨F', by rw [hG], by rw [hG]; exact hd'.fr fX (fun k hk hkr => hrF' (by rw [List.mem_singleton] at hkr; rw [← hkr]; exact hk)), fun k hk => (hg'.new k hk).imp id (fun h => Nat.le_trans q4.size h), ?_, ?_, hrF'⟩
          · exact ((q4.mono (T := r :: F) (by simp)).trans (hg'.fr.mono (T := r :: F) (by simp +contextual)) (fun k hk => .inl hk)).trans (fX.mono (T := r :: F) (by simp)) (fun k hk => .inl hk)
          · rw [hG]
            refine ⟨?_, ?_⟩
            · rw [hX, mm_wr_same hz', hq]
            · rw [hX, fz_wr, hz']
        · rw [hgo] at hG
          simp only [if_neg hx] at hG
          try simp (maxDischargeDepth := 8) [↓bindV_some, ↓bindU_some, ↓condE_true, ↓condE_false, ↓pickE_true, ↓pickE_false, ↓pickE_or, ↓pickE_and, ↓grdE_true, ↓grdE_false, ↓grdE_tf, ↓grdE_ft, ↓grdE_undef, ↓nilE_pt, ↓thenK_normal, ↓thenK_exit, ↓thenK_ret, ↓thenK_goto, ↓thenK_panic, ↓blockK_exit, ↓blockK_normal, ↓blockK_ret, ↓blockK_goto, ↓blockK_panic, ↓loopK_normal, ↓loopK_exit, ↓loopK_ret, ↓loopK_goto, ↓loopK_panic, ↓topK_ret, ↓topK_normal, ↓topK_panic, ↓resVs_nil, ↓resVs_tmp, ↓resVs_cell, tup_one, tup_nil, tup_two, put_get, argE_get, ↓takeE_def, ↓heldE_nil, ↓heldE_cons, qNil_pt, qPick_bool, qGrd_bool, qGrd_undef, ↓letK_def, pBox_eq, pBin_add, pBin_sub, pBin_mul, pBin_eql, pBin_neq, pBin_lss, pBin_leq, pBin_gtr, pBin_geq, pUn_not, pUn_neg, eqB, neB, eqS, neS, pExtract0, pExtract1, pExtract2, max_int, min_int, sz_nw, sz_wr, sz_drew, mm_nw, fz_nw, mm_drew, fz_drew, fz_wr, sz_mkS, mm_mkS, fz_mkS, Fr.mkS, mm_wr_same, mm_wr_ne, wr_wr, bs_oneT, splice_full, gt_zero, gt_succ, gt_set, gt_bs, byte_eq0, byte_eq1, byte_n0, byte_n1, Fr.refl, Fr.nw, Fr.wr, Fr.drew, e4]
          exact ⟨F', by rw [hG], by rw [hG]; exact hd', fun k hk => (hg'.new k hk).imp id (fun h => Nat.le_trans q4.size h), (q4.mono (T := r :: F) (by simp)).trans (hg'.fr.mono (T := r :: F) (by simp +contextual)) (fun k hk => .inl hk), by rw [hG]; exact hro4.fr hg'.fr hrF, fun hk => by
            rcases hg'.new r hk with h | h
            · exact hrF h
            · omega⟩
end Go.Proofs.Yticncfkpfpkfoaa
