/- Scan (f48). -/
import Derived.Test.YticncfkpfpkfoaaRollB
set_option linter.unusedVariables false
set_option linter.unusedSimpArgs false
namespace Go.Proofs.Yticncfkpfpkfoaa
open Go

/-- A row of entries that was made behind 'base'. -/
structure EntR (base : Nat) (w : World) (x : Value) (Lp : List (List UInt8 × Value)) : Prop where
  own : w.ownsRow base 22 1 x Lp.length (Lp.map (·.2))
  el : ∀ p ∈ Lp, RdV w p.2 p.1.length (bs p.1)
  lt : ∀ p ∈ Lp, ∀ k, p.2.ownBlock = some k → base ≤ k ∧ k < sz w ∧ x.ownBlock ≠ some k
theorem EntR.fr {base : Nat} {w w' : World} {x : Value} {Lp : List (List UInt8 × Value)} {S : List Nat} (h : EntR base w x Lp) (hf : Fr S w w') (hS : ∀ k ∈ S, k < base) : EntR base w' x Lp := by
  refine ⟨own_fr h.own hf (fun k hk hk2 => ?_), fun p hp => (h.el p hp).fr hf (fun k hk hk2 => ?_), fun p hp k hk => ?_⟩
  · have := (own_lt h.own k hk).1; have := hS k hk2; omega
  · have := (h.lt p hp k hk).1; have := hS k hk2; omega
  · obtain ⟨h1, h2, h3⟩ := h.lt p hp k hk
    exact ⟨h1, hf.lt h2, h3⟩
theorem EntR.nil (base : Nat) (w : World) : EntR base w (.slice none 0 0) [] := ⟨World.ownsRow_nil _ _ _ _, by simp, by simp⟩
theorem b67 {a : Option Addr} {n c : Nat} {w : World} : pBuildSlice P 67 1 [(0, .slice a n c)] w = some (sl (sz w) 0 1 1, nw w [.slice a n c] 22) := by
  rw [bsl67 (by omega) (by simp [Value.cells])]
  simp [splice, Value.cells]
/-- An entry more. -/
theorem EntR.snoc {base : Nat} {w : World} {x v : Value} {b : List UInt8} {Lp : List (List UInt8 × Value)} (h : EntR base w x Lp) (hb : base ≤ sz w) (hn : Lp.length ≤ 1000000) (hv : v.oneCell' = true) (hr : RdV w v b.length (bs b))
    (hk : ∀ k, v.ownBlock = some k → base ≤ k ∧ k < sz w ∧ x.ownBlock ≠ some k) :
    ∃ x' w', pBuiltin P .append #[67, 67] 67 [x, sl (sz w) 0 1 1] (nw w [v] 22) = some (x', w') ∧ EntR base w' x' (Lp ++ [(b, v)]) ∧ Fr x.ownBlock.toList w w' ∧ ∀ k, x'.ownBlock = some k → x.ownBlock = some k ∨ sz w ≤ k := by
  have f0 : Fr [] w (nw w [v] 22) := (Fr.refl [] w).nw _ _
  have hrd : RdV (nw w [v] 22) (sl (sz w) 0 1 1) 1 [v] := by
    have := rd_new w [v] 22 (n := 1) (by unfold maxLen; omega)
    exact this
  obtain ⟨x', w', hrun, hown, hg, hx'⟩ := append_own2 (P := P) (t := 67) (ty := 67) base sliceE67 hasZero22 cellsOf22 (by rw [zeroL22]; rfl) (by omega) (own_fr h.own f0 (by simp)) (by have := f0.size; omega) hrd (by simp) (by simpa using hv)
    (by unfold maxLen; omega) (by rw [bytesOf22]; omega)
  have fg := Fr.of_grown hg
  have hnn : ∀ k, x'.ownBlock = some k → x.ownBlock = some k ∨ sz w < k := fun k hk => by
    rcases hx' with h2 | h2
    · exact .inl (by rw [← h2]; exact hk)
    · have : k = sz (nw w [v] 22) := by rw [h2] at hk; simpa using hk.symm
      rw [sz_nw] at this
      exact .inr (by omega)
  refine ⟨x', w', hrun, ⟨?_, ?_, ?_⟩, (f0.mono (by simp)).trans fg (fun k hk => .inl hk), fun k hk => (hnn k hk).imp id Nat.le_of_lt⟩
  · rw [List.length_append, List.map_append]
    exact hown
  · intro p hp
    rcases List.mem_append.1 hp with hp | hp
    · exact ((h.el p hp).fr0 f0).fr fg (fun k hk hk2 => (h.lt p hp k hk).2.2 (by simpa using hk2))
    · rw [List.mem_singleton] at hp
      subst hp
      exact (hr.fr0 f0).fr fg (fun k hk2 hk3 => (hk k hk2).2.2 (by simpa using hk3))
  · intro p hp k hk2
    have hh : base ≤ k ∧ k < sz w ∧ x.ownBlock ≠ some k := by
      rcases List.mem_append.1 hp with hp | hp
      · exact h.lt p hp k hk2
      · rw [List.mem_singleton] at hp
        subst hp
        exact hk k hk2
    obtain ⟨h1, h2, h3⟩ := hh
    refine ⟨h1, fg.lt (f0.lt h2), fun he => ?_⟩
    rcases hnn k he with h4 | h4
    · exact h3 h4
    · omega

/-- What 'Scan' answers on an area. -/
def ScanR (base : Nat) (S : List (List UInt8)) (x : Value) (w' : World) : Prop :=
  ∃ ov Lp, x = .tuple #[ov, i64 ((scanM S).2 : Int), i64 0] ∧ EntR base w' ov Lp ∧ Lp.map (·.1) = (scanM S).1
def ScI (w : World) (b : Nat) (D : DD) (F : List Nat) (fr ln : Nat) (m : Nat) (e : Env) (w' : World) : Prop :=
  ∃ (at_ : Nat) (Lp : List (List UInt8 × Value)) (ov : Value), at_ ≤ ln ∧ ((areaS D fr ln).drop at_).length ≤ m ∧ Lp.length ≤ at_ ∧ Fr [] w w' ∧
    scanM (areaS D fr ln) = (Lp.map (·.1) ++ (scanGo m ((areaS D fr ln).drop at_) at_).1, (scanGo m ((areaS D fr ln).drop at_) at_).2) ∧
    EntR (sz w) w' ov Lp ∧ mm w' (sz w) = [i64 fr, i64 ln] ∧ fz w' (sz w) = false ∧ (∀ k, ov.ownBlock = some k → k ≠ sz w) ∧
    e 0 = pt b 0 ∧ e 3 = pt (sz w) 0 ∧ e 7 = ov ∧ e 8 = i64 at_

theorem scan_spec {w : World} {b : Nat} {D : DD} {F : List Nat} {fr ln : Int} (h : IsD w b D F) :
    Ret P 48 #[pt b 0, ar fr ln] w fun x w' => Fr [] w w' ∧ (D.down = true → x = .tuple #[.slice none 0 0, i64 0, i64 14]) ∧ (D.down = false → ¬ fitsM D.firm.length fr ln → x = .tuple #[.slice none 0 0, i64 0, i64 1]) ∧
      (D.down = false → fitsM D.firm.length fr ln → ScanR (sz w) (areaS D fr.toNat ln.toNat) x w') := by
  refine F48ok ?_
  unfold F48 ar
  have hlen : D.firm.length ≤ 4096 := by obtain ⟨hw, _⟩ := id h; exact hw.len
  obtain ⟨W, hW⟩ : ∃ W, W = nw w [i64 fr, i64 ln] 65 := ⟨_, rfl⟩
  have fW : Fr [] w W := by rw [hW]; exact (Fr.refl [] w).nw _ _
  have hm : mm W (sz w) = [i64 fr, i64 ln] := by rw [hW]; simp [sz_nw, sz_wr, sz_drew, mm_nw, fz_nw, mm_drew, fz_drew, fz_wr, sz_mkS, mm_mkS, fz_mkS, Fr.mkS, mm_wr_same, mm_wr_ne, wr_wr, bs_oneT, splice_full, gt_zero, gt_succ, gt_set, gt_bs, byte_eq0, byte_eq1, byte_n0, byte_n1, Fr.refl, Fr.nw, Fr.wr, Fr.drew]
  have hz : fz W (sz w) = false := by rw [hW]; simp [sz_nw, sz_wr, sz_drew, mm_nw, fz_nw, mm_drew, fz_drew, fz_wr, sz_mkS, mm_mkS, fz_mkS, Fr.mkS, mm_wr_same, mm_wr_ne, wr_wr, bs_oneT, splice_full, gt_zero, gt_succ, gt_set, gt_bs, byte_eq0, byte_eq1, byte_n0, byte_n1, Fr.refl, Fr.nw, Fr.wr, Fr.drew]
  have hs : sz w < sz W := by rw [hW]; simp [sz_nw, sz_wr, sz_drew, mm_nw, fz_nw, mm_drew, fz_drew, fz_wr, sz_mkS, mm_mkS, fz_mkS, Fr.mkS, mm_wr_same, mm_wr_ne, wr_wr, bs_oneT, splice_full, gt_zero, gt_succ, gt_set, gt_bs, byte_eq0, byte_eq1, byte_n0, byte_n1, Fr.refl, Fr.nw, Fr.wr, Fr.drew]
  try simp (maxDischargeDepth := 8) [↓bindV_some, ↓bindU_some, ↓condE_true, ↓condE_false, ↓pickE_true, ↓pickE_false, ↓pickE_or, ↓pickE_and, ↓grdE_true, ↓grdE_false, ↓grdE_tf, ↓grdE_ft, ↓grdE_undef, ↓nilE_pt, ↓thenK_normal, ↓thenK_exit, ↓thenK_ret, ↓thenK_goto, ↓thenK_panic, ↓blockK_exit, ↓blockK_normal, ↓blockK_ret, ↓blockK_goto, ↓blockK_panic, ↓loopK_normal, ↓loopK_exit, ↓loopK_ret, ↓loopK_goto, ↓loopK_panic, ↓topK_ret, ↓topK_normal, ↓topK_panic, ↓resVs_nil, ↓resVs_tmp, ↓resVs_cell, tup_one, tup_nil, tup_two, put_get, argE_get, ↓takeE_def, ↓heldE_nil, ↓heldE_cons, qNil_pt, qPick_bool, qGrd_bool, qGrd_undef, ↓letK_def, pBox_eq, pBin_add, pBin_sub, pBin_mul, pBin_eql, pBin_neq, pBin_lss, pBin_leq, pBin_gtr, pBin_geq, pUn_not, pUn_neg, eqB, neB, eqS, neS, pExtract0, pExtract1, pExtract2, max_int, min_int, sz_nw, sz_wr, sz_drew, mm_nw, fz_nw, mm_drew, fz_drew, fz_wr, sz_mkS, mm_mkS, fz_mkS, Fr.mkS, mm_wr_same, mm_wr_ne, wr_wr, bs_oneT, splice_full, gt_zero, gt_succ, gt_set, gt_bs, byte_eq0, byte_eq1, byte_n0, byte_n1, Fr.refl, Fr.nw, Fr.wr, Fr.drew, ← hW]
  refine (down_spec (h.fr0 fW)).call ?_
  rintro _ w1 ⟨rfl, f1⟩
  cases hd : D.down with
  | true =>
    try simp (maxDischargeDepth := 8) [↓bindV_some, ↓bindU_some, ↓condE_true, ↓condE_false, ↓pickE_true, ↓pickE_false, ↓pickE_or, ↓pickE_and, ↓grdE_true, ↓grdE_false, ↓grdE_tf, ↓grdE_ft, ↓grdE_undef, ↓nilE_pt, ↓thenK_normal, ↓thenK_exit, ↓thenK_ret, ↓thenK_goto, ↓thenK_panic, ↓blockK_exit, ↓blockK_normal, ↓blockK_ret, ↓blockK_goto, ↓blockK_panic, ↓loopK_normal, ↓loopK_exit, ↓loopK_ret, ↓loopK_goto, ↓loopK_panic, ↓topK_ret, ↓topK_normal, ↓topK_panic, ↓resVs_nil, ↓resVs_tmp, ↓resVs_cell, tup_one, tup_nil, tup_two, put_get, argE_get, ↓takeE_def, ↓heldE_nil, ↓heldE_cons, qNil_pt, qPick_bool, qGrd_bool, qGrd_undef, ↓letK_def, pBox_eq, pBin_add, pBin_sub, pBin_mul, pBin_eql, pBin_neq, pBin_lss, pBin_leq, pBin_gtr, pBin_geq, pUn_not, pUn_neg, eqB, neB, eqS, neS, pExtract0, pExtract1, pExtract2, max_int, min_int, sz_nw, sz_wr, sz_drew, mm_nw, fz_nw, mm_drew, fz_drew, fz_wr, sz_mkS, mm_mkS, fz_mkS, Fr.mkS, mm_wr_same, mm_wr_ne, wr_wr, bs_oneT, splice_full, gt_zero, gt_succ, gt_set, gt_bs, byte_eq0, byte_eq1, byte_n0, byte_n1, Fr.refl, Fr.nw, Fr.wr, Fr.drew]
    exact fW.trans0 f1
  | false =>
    have hm1 : mm w1 (sz w) = [i64 fr, i64 ln] := by rw [f1.mm hs (by simp), hm]
    have hz1 : fz w1 (sz w) = false := by rw [f1.fz hs (by simp), hz]
    have hs1 := lt_of_fz hz1
    try simp (maxDischargeDepth := 8) [↓bindV_some, ↓bindU_some, ↓condE_true, ↓condE_false, ↓pickE_true, ↓pickE_false, ↓pickE_or, ↓pickE_and, ↓grdE_true, ↓grdE_false, ↓grdE_tf, ↓grdE_ft, ↓grdE_undef, ↓nilE_pt, ↓thenK_normal, ↓thenK_exit, ↓thenK_ret, ↓thenK_goto, ↓thenK_panic, ↓blockK_exit, ↓blockK_normal, ↓blockK_ret, ↓blockK_goto, ↓blockK_panic, ↓loopK_normal, ↓loopK_exit, ↓loopK_ret, ↓loopK_goto, ↓loopK_panic, ↓topK_ret, ↓topK_normal, ↓topK_panic, ↓resVs_nil, ↓resVs_tmp, ↓resVs_cell, tup_one, tup_nil, tup_two, put_get, argE_get, ↓takeE_def, ↓heldE_nil, ↓heldE_cons, qNil_pt, qPick_bool, qGrd_bool, qGrd_undef, ↓letK_def, pBox_eq, pBin_add, pBin_sub, pBin_mul, pBin_eql, pBin_neq, pBin_lss, pBin_leq, pBin_gtr, pBin_geq, pUn_not, pUn_neg, eqB, neB, eqS, neS, pExtract0, pExtract1, pExtract2, max_int, min_int, sz_nw, sz_wr, sz_drew, mm_nw, fz_nw, mm_drew, fz_drew, fz_wr, sz_mkS, mm_mkS, fz_mkS, Fr.mkS, mm_wr_same, mm_wr_ne, wr_wr, bs_oneT, splice_full, gt_zero, gt_succ, gt_set, gt_bs, byte_eq0, byte_eq1, byte_n0, byte_n1, Fr.refl, Fr.nw, Fr.wr, Fr.drew, hm1, hs1]
    refine (fits_spec (fr := fr) (ln := ln) ((h.fr0 fW).fr0 f1)).call ?_
    rintro _ w2 ⟨rfl, f2⟩
    have g2 := (fW.trans0 f1).trans0 f2
    by_cases hfit : fitsM D.firm.length fr ln
    · obtain ⟨h1, h2, h3, h4⟩ := id hfit
      obtain ⟨fr, rfl⟩ : ∃ k : Nat, fr = k := ⟨fr.toNat, by omega⟩
      obtain ⟨ln, rfl⟩ : ∃ k : Nat, ln = k := ⟨ln.toNat, by omega⟩
      have hft : (fitsM D.firm.length (fr : Int) (ln : Int)) = True := eq_true hfit
      simp only [Int.toNat_natCast]
      try simp (maxDischargeDepth := 8) [↓bindV_some, ↓bindU_some, ↓condE_true, ↓condE_false, ↓pickE_true, ↓pickE_false, ↓pickE_or, ↓pickE_and, ↓grdE_true, ↓grdE_false, ↓grdE_tf, ↓grdE_ft, ↓grdE_undef, ↓nilE_pt, ↓thenK_normal, ↓thenK_exit, ↓thenK_ret, ↓thenK_goto, ↓thenK_panic, ↓blockK_exit, ↓blockK_normal, ↓blockK_ret, ↓blockK_goto, ↓blockK_panic, ↓loopK_normal, ↓loopK_exit, ↓loopK_ret, ↓loopK_goto, ↓loopK_panic, ↓topK_ret, ↓topK_normal, ↓topK_panic, ↓resVs_nil, ↓resVs_tmp, ↓resVs_cell, tup_one, tup_nil, tup_two, put_get, argE_get, ↓takeE_def, ↓heldE_nil, ↓heldE_cons, qNil_pt, qPick_bool, qGrd_bool, qGrd_undef, ↓letK_def, pBox_eq, pBin_add, pBin_sub, pBin_mul, pBin_eql, pBin_neq, pBin_lss, pBin_leq, pBin_gtr, pBin_geq, pUn_not, pUn_neg, eqB, neB, eqS, neS, pExtract0, pExtract1, pExtract2, max_int, min_int, sz_nw, sz_wr, sz_drew, mm_nw, fz_nw, mm_drew, fz_drew, fz_wr, sz_mkS, mm_mkS, fz_mkS, Fr.mkS, mm_wr_same, mm_wr_ne, wr_wr, bs_oneT, splice_full, gt_zero, gt_succ, gt_set, gt_bs, byte_eq0, byte_eq1, byte_n0, byte_n1, Fr.refl, Fr.nw, Fr.wr, Fr.drew, hft]
      refine loopE_of (ScI w b D F fr ln) ln ⟨0, [], .slice none 0 0, by omega, by rw [List.drop_zero, areaS_len]; exact Nat.le_refl _, by simp, g2, ?_, EntR.nil _ _, ?_, ?_, by simp [Value.ownBlock], by simp [put_get, argE_get], by simp [put_get], by simp [put_get], by simp [put_get]⟩ ?_
      · unfold scanM; rw [areaS_len]; simp
      · rw [f2.mm hs1 (by simp), hm1]
      · rw [f2.fz hs1 (by simp), hz1]
      rintro m e w3 ⟨at_, Lp, ov, hat, hdl, hLa, hf, hsc, hE, m4, z4, hob, e0, e3, e7, e8⟩
      unfold F48B0
      have hs4 := lt_of_fz z4
      try simp (maxDischargeDepth := 8) [↓bindV_some, ↓bindU_some, ↓condE_true, ↓condE_false, ↓pickE_true, ↓pickE_false, ↓pickE_or, ↓pickE_and, ↓grdE_true, ↓grdE_false, ↓grdE_tf, ↓grdE_ft, ↓grdE_undef, ↓nilE_pt, ↓thenK_normal, ↓thenK_exit, ↓thenK_ret, ↓thenK_goto, ↓thenK_panic, ↓blockK_exit, ↓blockK_normal, ↓blockK_ret, ↓blockK_goto, ↓blockK_panic, ↓loopK_normal, ↓loopK_exit, ↓loopK_ret, ↓loopK_goto, ↓loopK_panic, ↓topK_ret, ↓topK_normal, ↓topK_panic, ↓resVs_nil, ↓resVs_tmp, ↓resVs_cell, tup_one, tup_nil, tup_two, put_get, argE_get, ↓takeE_def, ↓heldE_nil, ↓heldE_cons, qNil_pt, qPick_bool, qGrd_bool, qGrd_undef, ↓letK_def, pBox_eq, pBin_add, pBin_sub, pBin_mul, pBin_eql, pBin_neq, pBin_lss, pBin_leq, pBin_gtr, pBin_geq, pUn_not, pUn_neg, eqB, neB, eqS, neS, pExtract0, pExtract1, pExtract2, max_int, min_int, sz_nw, sz_wr, sz_drew, mm_nw, fz_nw, mm_drew, fz_drew, fz_wr, sz_mkS, mm_mkS, fz_mkS, Fr.mkS, mm_wr_same, mm_wr_ne, wr_wr, bs_oneT, splice_full, gt_zero, gt_succ, gt_set, gt_bs, byte_eq0, byte_eq1, byte_n0, byte_n1, Fr.refl, Fr.nw, Fr.wr, Fr.drew, letK_def, e0, e3, e8, m4, hs4]
      have hone := one_spec (w := w3) (fr := fr) (ln := ln) (at_ := at_) (h.fr0 hf) hd (by omega) hat
      refine hone.call ?_
      rintro _ w4 ⟨hR, f4⟩
      rcases hR with ⟨hno, rfl⟩ | ⟨bb, n, bv', hso, rfl, hbo⟩
      · rw [scanGo_none hno, List.append_nil] at hsc
        try simp (maxDischargeDepth := 8) [↓bindV_some, ↓bindU_some, ↓condE_true, ↓condE_false, ↓pickE_true, ↓pickE_false, ↓pickE_or, ↓pickE_and, ↓grdE_true, ↓grdE_false, ↓grdE_tf, ↓grdE_ft, ↓grdE_undef, ↓nilE_pt, ↓thenK_normal, ↓thenK_exit, ↓thenK_ret, ↓thenK_goto, ↓thenK_panic, ↓blockK_exit, ↓blockK_normal, ↓blockK_ret, ↓blockK_goto, ↓blockK_panic, ↓loopK_normal, ↓loopK_exit, ↓loopK_ret, ↓loopK_goto, ↓loopK_panic, ↓topK_ret, ↓topK_normal, ↓topK_panic, ↓resVs_nil, ↓resVs_tmp, ↓resVs_cell, tup_one, tup_nil, tup_two, put_get, argE_get, ↓takeE_def, ↓heldE_nil, ↓heldE_cons, qNil_pt, qPick_bool, qGrd_bool, qGrd_undef, ↓letK_def, pBox_eq, pBin_add, pBin_sub, pBin_mul, pBin_eql, pBin_neq, pBin_lss, pBin_leq, pBin_gtr, pBin_geq, pUn_not, pUn_neg, eqB, neB, eqS, neS, pExtract0, pExtract1, pExtract2, max_int, min_int, sz_nw, sz_wr, sz_drew, mm_nw, fz_nw, mm_drew, fz_drew, fz_wr, sz_mkS, mm_mkS, fz_mkS, Fr.mkS, mm_wr_same, mm_wr_ne, wr_wr, bs_oneT, splice_full, gt_zero, gt_succ, gt_set, gt_bs, byte_eq0, byte_eq1, byte_n0, byte_n1, Fr.refl, Fr.nw, Fr.wr, Fr.drew, e7, e8]
        refine ⟨hf.trans0 f4, ov, Lp, ?_, hE.fr f4 (by simp), ?_⟩
        · rw [hsc]
        · rw [hsc]
      · obtain ⟨n0, n1⟩ := oneGo_pos _ 0 0 [] _ _ hso
        rw [Nat.zero_add] at n1
        have hdl2 : ((areaS D fr ln).drop at_).length = ln - at_ := by rw [List.length_drop, areaS_len]
        obtain ⟨m', rfl, hm'1, hm'2⟩ := scanGo_some (at_ := at_) hso hdl
        rw [hm'2] at hsc
        rw [List.drop_drop] at hsc hm'1
        have hE4 := hE.fr f4 (by simp)
        obtain ⟨ba, bc, hbv⟩ := own_val hbo
        have hn4 : sz w3 ≤ sz w4 := f4.size
        have hge : sz w ≤ sz w3 := hf.size
        obtain ⟨x', w5, hrun, hE5, f5, hx5⟩ := hE4.snoc (v := bv') (b := bb) (by omega) (by omega) (by rw [hbv]; rfl) (own_rd hbo) (fun k hk => by
          obtain ⟨k1, k2⟩ := own_lt hbo k hk
          refine ⟨by omega, k2, fun hxk => ?_⟩
          have := (own_lt hE.own k hxk).2
          omega)
        have hbo1 : bv'.oneCell' = true := by rw [hbv]; rfl
        have hb6 : ∀ w, pBuildSlice P 67 1 [(0, bv')] w = some (sl (sz w) 0 1 1, nw w [bv'] 22) := fun w => by rw [hbv]; exact b67
        have hn0 : ((n : Int) = 0) = False := eq_false (by omega)
        have hn0' : (n = 0) = False := eq_false (by omega)
        have hwa : IntKind.i64.wrap ((at_ : Int) + n) = ((at_ + n : Nat) : Int) := wrap64 (by omega) (by omega)
        try simp (maxDischargeDepth := 8) [↓bindV_some, ↓bindU_some, ↓condE_true, ↓condE_false, ↓pickE_true, ↓pickE_false, ↓pickE_or, ↓pickE_and, ↓grdE_true, ↓grdE_false, ↓grdE_tf, ↓grdE_ft, ↓grdE_undef, ↓nilE_pt, ↓thenK_normal, ↓thenK_exit, ↓thenK_ret, ↓thenK_goto, ↓thenK_panic, ↓blockK_exit, ↓blockK_normal, ↓blockK_ret, ↓blockK_goto, ↓blockK_panic, ↓loopK_normal, ↓loopK_exit, ↓loopK_ret, ↓loopK_goto, ↓loopK_panic, ↓topK_ret, ↓topK_normal, ↓topK_panic, ↓resVs_nil, ↓resVs_tmp, ↓resVs_cell, tup_one, tup_nil, tup_two, put_get, argE_get, ↓takeE_def, ↓heldE_nil, ↓heldE_cons, qNil_pt, qPick_bool, qGrd_bool, qGrd_undef, ↓letK_def, pBox_eq, pBin_add, pBin_sub, pBin_mul, pBin_eql, pBin_neq, pBin_lss, pBin_leq, pBin_gtr, pBin_geq, pUn_not, pUn_neg, eqB, neB, eqS, neS, pExtract0, pExtract1, pExtract2, max_int, min_int, sz_nw, sz_wr, sz_drew, mm_nw, fz_nw, mm_drew, fz_drew, fz_wr, sz_mkS, mm_mkS, fz_mkS, Fr.mkS, mm_wr_same, mm_wr_ne, wr_wr, bs_oneT, splice_full, gt_zero, gt_succ, gt_set, gt_bs, byte_eq0, byte_eq1, byte_n0, byte_n1, Fr.refl, Fr.nw, Fr.wr, Fr.drew, e7, e8, hn0, hn0', hb6, hrun, hwa, -bsl67, -Int.natCast_add]
        have hns : sz w ∉ ov.ownBlock.toList := fun hk => hob _ (by simpa using hk) rfl
        have hs5 := f4.lt hs4
        refine ⟨m', by omega, at_ + n, Lp ++ [(bb, bv')], x', by omega, hm'1, by simp; omega, (hf.trans0 f4).trans f5 (fun k hk => .inr ?_), ?_, hE5, ?_, ?_, ?_, by simp [put_get, e0], by simp [put_get, e3], by simp [put_get], by simp [put_get]⟩
        · exact (own_lt hE.own k (by simpa using hk)).1
        · rw [hsc]; simp
        · rw [f5.mm hs5 hns, f4.mm hs4 (by simp), m4]
        · rw [f5.fz hs5 hns, f4.fz hs4 (by simp), z4]
        · intro k hk
          rcases hx5 k hk with h5 | h5
          · exact hob k h5
          · omega
    · have hft : (fitsM D.firm.length fr ln) = False := eq_false hfit
      try simp (maxDischargeDepth := 8) [↓bindV_some, ↓bindU_some, ↓condE_true, ↓condE_false, ↓pickE_true, ↓pickE_false, ↓pickE_or, ↓pickE_and, ↓grdE_true, ↓grdE_false, ↓grdE_tf, ↓grdE_ft, ↓grdE_undef, ↓nilE_pt, ↓thenK_normal, ↓thenK_exit, ↓thenK_ret, ↓thenK_goto, ↓thenK_panic, ↓blockK_exit, ↓blockK_normal, ↓blockK_ret, ↓blockK_goto, ↓blockK_panic, ↓loopK_normal, ↓loopK_exit, ↓loopK_ret, ↓loopK_goto, ↓loopK_panic, ↓topK_ret, ↓topK_normal, ↓topK_panic, ↓resVs_nil, ↓resVs_tmp, ↓resVs_cell, tup_one, tup_nil, tup_two, put_get, argE_get, ↓takeE_def, ↓heldE_nil, ↓heldE_cons, qNil_pt, qPick_bool, qGrd_bool, qGrd_undef, ↓letK_def, pBox_eq, pBin_add, pBin_sub, pBin_mul, pBin_eql, pBin_neq, pBin_lss, pBin_leq, pBin_gtr, pBin_geq, pUn_not, pUn_neg, eqB, neB, eqS, neS, pExtract0, pExtract1, pExtract2, max_int, min_int, sz_nw, sz_wr, sz_drew, mm_nw, fz_nw, mm_drew, fz_drew, fz_wr, sz_mkS, mm_mkS, fz_mkS, Fr.mkS, mm_wr_same, mm_wr_ne, wr_wr, bs_oneT, splice_full, gt_zero, gt_succ, gt_set, gt_bs, byte_eq0, byte_eq1, byte_n0, byte_n1, Fr.refl, Fr.nw, Fr.wr, Fr.drew, hft]
      exact g2
end Go.Proofs.Yticncfkpfpkfoaa
