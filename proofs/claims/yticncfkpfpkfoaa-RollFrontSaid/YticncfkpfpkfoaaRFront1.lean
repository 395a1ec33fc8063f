/- RollFront: the two loops that append. Printed by rfront1.py. -/
import Derived.Test.YticncfkpfpkfoaaRFront0
import Derived.Test.YticncfkpfpkfoaaRKeeps
import Derived.Test.YticncfkpfpkfoaaWRollF
set_option linter.unusedVariables false
set_option linter.unusedSimpArgs false
namespace Go.Proofs.Yticncfkpfpkfoaa
open Go

/-- What stands on the disk and in the list of all entries, while entries come: those of Lp1 are for good, those of Lp not yet. -/
structure FrS (w : World) (Lp1 Lp : List (List UInt8 × Value)) (F0 : List (List UInt8)) (W0 : Int) (r b cb : Nat) (D : DD) (F : List Nat) (wv : Value) (w' : World) : Prop where
  fr : Fr [] w w'
  isd : IsD w' b D F
  hF : ∀ k ∈ F, sz w ≤ k ∧ k ≠ cb
  roll : IsRoll w' r b ((7 : Nat) : Int) ((290 : Nat) : Int) ((tot (Lp1 ++ Lp) : Nat) : Int)
  rF : r ∉ F
  calm : CalmN 300 D
  laid : Laid D 7 290 ((Lp1 ++ Lp).map (·.1)) (290 - tot (Lp1 ++ Lp))
  pend : D.pend = runW (7 + tot Lp1) (secsAll (Lp.map (·.1)))
  firm : D.firm = F0
  wrs : D.writes ≤ W0 + tot Lp
  mcb : mm w' cb = [i64 7, i64 290]
  zcb : fz w' cb = false
  own : w'.ownsRow (sz w) 22 1 wv (Lp1 ++ Lp).length ((Lp1 ++ Lp).map (·.2))
  apart : ∀ c, wv.ownBlock = some c → c ∉ F ∧ c ≠ cb ∧ c ≠ r
  el : ∀ p ∈ Lp1 ++ Lp, RdV w p.2 p.1.length (bs p.1)
  short : ∀ p ∈ Lp1 ++ Lp, p.1.length ≤ 3840
theorem tot_append (a b : List (List UInt8 × Value)) : tot (a ++ b) = tot a + tot b := by unfold tot; rw [List.map_append, total_append]

def Fr0I (w : World) (L Lp1 : List (List UInt8 × Value)) (F0 : List (List UInt8)) (W0 : Int) (v : Value) (r b cb : Nat) (x1 x2 x16 : Value) (m : Nat) (e : Env) (w' : World) : Prop :=
  ∃ (j : Nat) (Lp : List (List UInt8 × Value)) (F : List Nat) (D : DD) (wv : Value), m = L.length - j ∧ j ≤ L.length ∧ Lp.length ≤ j ∧ FrS w Lp1 Lp F0 W0 r b cb D F wv w' ∧
    e 51 = v ∧ e 52 = i64 L.length ∧ e 53 = i64 j ∧ e 1 = x1 ∧ e 2 = x2 ∧ e 7 = pt b 0 ∧ e 9 = pt cb 0 ∧ e 10 = pt r 0 ∧ e 13 = wv
theorem fr0_step {w : World} {L Lp1 : List (List UInt8 × Value)} {F0 : List (List UInt8)} {W0 : Int} {v : Value} {r b cb : Nat} {x1 x2 x16 : Value} (hv : IsE w v L) (hbig : bigM L) (h20 : Lp1.length ≤ 20) (hW0 : W0 ≤ 1000) (hr : sz w ≤ r) (hcb : sz w ≤ cb) (hrc : r ≠ cb) {m : Nat} {e : Env} {w1 : World}
    (hI : Fr0I w L Lp1 F0 W0 v r b cb x1 x2 x16 m e w1) {K : KT} (hN' : ∀ m' e' w', m' < m → Fr0I w L Lp1 F0 W0 v r b cb x1 x2 x16 m' e' w' → K .normal e' w') (hX : ∀ e' w', Fr0I w L Lp1 F0 W0 v r b cb x1 x2 x16 0 e' w' → K (.exit 0) e' w') : F15B0 e w1 K := by
  obtain ⟨j, Lp, F, D, wv, hm, hj, hjl0, hS, es1, es2, es3, e1, e2, e7, e9, e10, e13⟩ := hI
  subst hm
  obtain ⟨hb1, hb2⟩ := hbig
  unfold F15B0
  have htl : tot (Lp1 ++ Lp) + (290 - tot (Lp1 ++ Lp)) = 290 := hS.laid.1
  have hpt : tot (Lp1 ++ Lp) = tot Lp1 + tot Lp := tot_append _ _
  have hpl : D.pend.length = tot Lp := by rw [hS.pend, runW_len, secsAll_len]; rfl
  by_cases hjl : j < L.length
  · have hl1 : (j < L.length) = True := eq_true hjl
    have hl2 : ((j : Int) < L.length) = True := eq_true (by omega)
    obtain ⟨p, hp⟩ : ∃ p, L[j]? = some p := ⟨_, List.getElem?_eq_getElem hjl⟩
    have hpm := List.mem_of_getElem? hp
    have hp5 := hb2 p hpm
    obtain ⟨pb, po, pc, hv2, hin, hgp⟩ := (hv.fr0 hS.fr).at hp
    have hia : ∀ w', pIndexAddr P 67 v (i64 j) w' = some (pt pb (po + j), w') := fun w' => by
      rw [hv2]
      have := ia67 (w := w') (b := pb) (o := po) (n := L.length) (c := pc) (k := .i64) (j := (j : Int)) (by omega) (by omega)
      rw [this]; simp
    have hlp : pLoad P 22 (pt pb (po + j)) w1 = some (p.2, w1) := by rw [ld22 hin, hgp]
    obtain ⟨pa, pcc, hpv⟩ := sl_of (hv.el p hpm)
    have hw1 : IntKind.i64.wrap ((j : Int) + 1) = ((j + 1 : Nat) : Int) := wrap64 (by omega) (by omega)
    have hpF : 0 < p.1.length → ∀ k, p.2.ownBlock = some k → k ∉ F := fun h0 k hk hkF => by
      have := rd_old (hv.el p hpm) h0 hk
      have := (hS.hF k hkF).1
      omega
    have hap := append_spec (fr := 7) (ln := 290) (at_ := tot (Lp1 ++ Lp)) (B := p.1) hS.roll hS.isd hS.rF ((hv.el p hpm).fr0 hS.fr) hpF hp5 (by omega) (by omega) (by omega) (by have := hS.wrs; omega)
    try simp (maxDischargeDepth := 8) [↓bindV_some, ↓bindU_some, ↓condE_true, ↓condE_false, ↓pickE_true, ↓pickE_false, ↓pickE_or, ↓pickE_and, ↓grdE_true, ↓grdE_false, ↓grdE_tf, ↓grdE_ft, ↓grdE_undef, ↓nilE_pt, ↓thenK_normal, ↓thenK_exit, ↓thenK_ret, ↓thenK_goto, ↓thenK_panic, ↓blockK_exit, ↓blockK_normal, ↓blockK_ret, ↓blockK_goto, ↓blockK_panic, ↓loopK_normal, ↓loopK_exit, ↓loopK_ret, ↓loopK_goto, ↓loopK_panic, ↓topK_ret, ↓topK_normal, ↓topK_panic, ↓resVs_nil, ↓resVs_tmp, ↓resVs_cell, tup_one, tup_nil, tup_two, put_get, argE_get, ↓takeE_def, ↓heldE_nil, ↓heldE_cons, qNil_pt, qPick_bool, qGrd_bool, qGrd_undef, ↓letK_def, pBox_eq, pBin_add, pBin_sub, pBin_mul, pBin_eql, pBin_neq, pBin_lss, pBin_leq, pBin_gtr, pBin_geq, pUn_not, pUn_neg, eqB, neB, eqS, neS, pExtract0, pExtract1, pExtract2, max_int, min_int, sz_nw, sz_wr, sz_drew, mm_nw, fz_nw, mm_drew, fz_drew, fz_wr, sz_mkS, mm_mkS, fz_mkS, Fr.mkS, mm_wr_same, mm_wr_ne, wr_wr, bs_oneT, splice_full, gt_zero, gt_succ, gt_set, gt_bs, byte_eq0, byte_eq1, byte_n0, byte_n1, Fr.refl, Fr.nw, Fr.wr, Fr.drew, es1, es2, es3, e10, hl1, hl2, hia, hlp, -ld22]
    refine hap.call ?_
    rintro x w3 ⟨F3, hA⟩
    have hx := hA.val
    subst hx
    have hF3 : ∀ k ∈ F3, sz w ≤ k ∧ k ≠ cb := fun k hk => by
      rcases hA.new k hk with h | h
      · exact hS.hF k h
      · have := hS.fr.size; have := lt_of_fz hS.zcb; omega
    have hcbn : cb ∉ r :: F := fun hk => by
      rcases List.mem_cons.1 hk with h | h
      · exact hrc h.symm
      · exact (hS.hF _ h).2 rfl
    have g3 : Fr [] w w3 := hS.fr.trans hA.fr' (fun k hk => .inr (by
      rcases List.mem_cons.1 hk with h | h
      · omega
      · exact (hS.hF k h).1))
    have z3 : fz w3 cb = false := by rw [hA.fr'.fz (lt_of_fz hS.zcb) hcbn, hS.zcb]
    have m3 : mm w3 cb = [i64 7, i64 290] := by rw [hA.fr'.mm (lt_of_fz hS.zcb) hcbn, hS.mcb]
    have hown3 := own_fr hS.own hA.fr' (fun c hc hk => by
      rcases List.mem_cons.1 hk with h | h
      · exact (hS.apart c hc).2.2 h
      · exact (hS.apart c hc).1 h)
    have hwv3 : ∀ c, wv.ownBlock = some c → c ∉ F3 ∧ c ≠ cb ∧ c ≠ r := fun c hc => by
      refine ⟨fun hk => ?_, (hS.apart c hc).2⟩
      rcases hA.new c hk with h | h
      · exact (hS.apart c hc).1 h
      · have := (own_lt hS.own c hc).2; omega
    have asit : ∀ (code : Int), appM 7 290 (tot (Lp1 ++ Lp)) p.1 D = (D, code, tot (Lp1 ++ Lp)) → FrS w Lp1 Lp F0 W0 r b cb D F3 wv w3 := fun code hG => by
      have h1 := hA.isd
      have h2 := hA.roll
      rw [hG] at h1 h2
      exact ⟨g3, h1, hF3, h2, hA.out, hS.calm, hS.laid, hS.pend, hS.firm, hS.wrs, m3, z3, hown3, hwv3, hS.el, hS.short⟩
    obtain ⟨code, hcode⟩ : ∃ code, code = (appM 7 290 (tot (Lp1 ++ Lp)) p.1 D).2.1 := ⟨_, rfl⟩
    rw [← hcode]
    have hfin : ∀ (e' : Env) (w' : World) (wv' : Value) (Lp' : List (List UInt8 × Value)) (D' : DD) (F' : List Nat), Lp'.length ≤ j + 1 → FrS w Lp1 Lp' F0 W0 r b cb D' F' wv' w' → e' 51 = v → e' 52 = i64 L.length → e' 53 = i64 ((j + 1 : Nat) : Int) → e' 1 = x1 → e' 2 = x2 → e' 7 = pt b 0 → e' 9 = pt cb 0 → e' 10 = pt r 0 → e' 13 = wv' → K .normal e' w' :=
      fun e' w' wv' Lp' D' F' k1 k2 k3 k4 k5 k6 k7 k8 k9 k10 k11 => hN' (L.length - (j + 1)) e' w' (by omega) ⟨j + 1, Lp', F', D', wv', rfl, by omega, k1, k2, k3, k4, k5, k6, k7, k8, k9, k10, k11⟩
    by_cases hlong : 3840 < p.1.length
    · have hG := appM_long (fr := 7) (ln := 290) (at_ := tot (Lp1 ++ Lp)) (B := p.1) hS.calm.down hlong
      rw [hG] at hcode
      simp only at hcode
      subst hcode
      try simp (maxDischargeDepth := 8) [↓bindV_some, ↓bindU_some, ↓condE_true, ↓condE_false, ↓pickE_true, ↓pickE_false, ↓pickE_or, ↓pickE_and, ↓grdE_true, ↓grdE_false, ↓grdE_tf, ↓grdE_ft, ↓grdE_undef, ↓nilE_pt, ↓thenK_normal, ↓thenK_exit, ↓thenK_ret, ↓thenK_goto, ↓thenK_panic, ↓blockK_exit, ↓blockK_normal, ↓blockK_ret, ↓blockK_goto, ↓blockK_panic, ↓loopK_normal, ↓loopK_exit, ↓loopK_ret, ↓loopK_goto, ↓loopK_panic, ↓topK_ret, ↓topK_normal, ↓topK_panic, ↓resVs_nil, ↓resVs_tmp, ↓resVs_cell, tup_one, tup_nil, tup_two, put_get, argE_get, ↓takeE_def, ↓heldE_nil, ↓heldE_cons, qNil_pt, qPick_bool, qGrd_bool, qGrd_undef, ↓letK_def, pBox_eq, pBin_add, pBin_sub, pBin_mul, pBin_eql, pBin_neq, pBin_lss, pBin_leq, pBin_gtr, pBin_geq, pUn_not, pUn_neg, eqB, neB, eqS, neS, pExtract0, pExtract1, pExtract2, max_int, min_int, sz_nw, sz_wr, sz_drew, mm_nw, fz_nw, mm_drew, fz_drew, fz_wr, sz_mkS, mm_mkS, fz_mkS, Fr.mkS, mm_wr_same, mm_wr_ne, wr_wr, bs_oneT, splice_full, gt_zero, gt_succ, gt_set, gt_bs, byte_eq0, byte_eq1, byte_n0, byte_n1, Fr.refl, Fr.nw, Fr.wr, Fr.drew, es3, hw1, -Int.natCast_add]
      exact hfin _ _ wv Lp D F3 (by omega) (asit 3 hG) (by simp [put_get, es1]) (by simp [put_get, es2]) (by simp [put_get]) (by simp [put_get, e1]) (by simp [put_get, e2]) (by simp [put_get, e7]) (by simp [put_get, e9]) (by simp [put_get, e10]) (by simp [put_get, e13])
    by_cases hfull : 290 - tot (Lp1 ++ Lp) < need p.1.length
    · have hG := appM_full (fr := 7) (ln := 290) (at_ := tot (Lp1 ++ Lp)) (B := p.1) (D := D) hS.calm.down (by omega) (by omega) (by omega)
      rw [hG] at hcode
      simp only at hcode
      subst hcode
      try simp (maxDischargeDepth := 8) [↓bindV_some, ↓bindU_some, ↓condE_true, ↓condE_false, ↓pickE_true, ↓pickE_false, ↓pickE_or, ↓pickE_and, ↓grdE_true, ↓grdE_false, ↓grdE_tf, ↓grdE_ft, ↓grdE_undef, ↓nilE_pt, ↓thenK_normal, ↓thenK_exit, ↓thenK_ret, ↓thenK_goto, ↓thenK_panic, ↓blockK_exit, ↓blockK_normal, ↓blockK_ret, ↓blockK_goto, ↓blockK_panic, ↓loopK_normal, ↓loopK_exit, ↓loopK_ret, ↓loopK_goto, ↓loopK_panic, ↓topK_ret, ↓topK_normal, ↓topK_panic, ↓resVs_nil, ↓resVs_tmp, ↓resVs_cell, tup_one, tup_nil, tup_two, put_get, argE_get, ↓takeE_def, ↓heldE_nil, ↓heldE_cons, qNil_pt, qPick_bool, qGrd_bool, qGrd_undef, ↓letK_def, pBox_eq, pBin_add, pBin_sub, pBin_mul, pBin_eql, pBin_neq, pBin_lss, pBin_leq, pBin_gtr, pBin_geq, pUn_not, pUn_neg, eqB, neB, eqS, neS, pExtract0, pExtract1, pExtract2, max_int, min_int, sz_nw, sz_wr, sz_drew, mm_nw, fz_nw, mm_drew, fz_drew, fz_wr, sz_mkS, mm_mkS, fz_mkS, Fr.mkS, mm_wr_same, mm_wr_ne, wr_wr, bs_oneT, splice_full, gt_zero, gt_succ, gt_set, gt_bs, byte_eq0, byte_eq1, byte_n0, byte_n1, Fr.refl, Fr.nw, Fr.wr, Fr.drew, es3, hw1, -Int.natCast_add]
      exact hfin _ _ wv Lp D F3 (by omega) (asit 8 hG) (by simp [put_get, es1]) (by simp [put_get, es2]) (by simp [put_get]) (by simp [put_get, e1]) (by simp [put_get, e2]) (by simp [put_get, e7]) (by simp [put_get, e9]) (by simp [put_get, e10]) (by simp [put_get, e13])
    obtain ⟨D', hG, hc', hv', hpl', hwl', hfi'⟩ := appM_ok (N := 300) (fr := 7) (ln := 290) (at_ := tot (Lp1 ++ Lp)) (B := p.1) hS.calm (by omega) (by omega) (by omega)
    have hpd := appM_run hS.calm (by omega) (by omega) (by omega) hG
    rw [hG] at hcode
    simp only at hcode
    subst hcode
    have hdA := hA.isd
    have hroA := hA.roll
    rw [hG] at hdA hroA
    simp only at hdA hroA
    have hb67 : ∀ w, pBuildSlice P 67 1 [(0, p.2)] w = some (sl (sz w) 0 1 1, nw w [p.2] 22) := fun w => by rw [hpv]; exact b67
    have f7 : Fr [] w3 (nw w3 [p.2] 22) := (Fr.refl [] w3).nw _ _
    have hrd7 : RdV (nw w3 [p.2] 22) (sl (sz w3) 0 1 1) 1 [p.2] := rd_new w3 [p.2] 22 (n := 1) (by unfold maxLen; omega)
    have hLA : (Lp1 ++ Lp).length ≤ 60 := by rw [List.length_append]; omega
    obtain ⟨wv2, w7, hrun, hown7, hgr7, hwv7⟩ := append_own2 (P := P) (t := 67) (ty := 67) (sz w) sliceE67 hasZero22 cellsOf22 (by rw [zeroL22]; rfl) (by omega) (own_fr hown3 f7 (by simp)) (by have := (g3.trans0 f7).size; omega) hrd7 (by simp) (by rw [hpv]; simp)
      (by unfold maxLen; omega) (by rw [bytesOf22]; omega)
    have f8 := Fr.of_grown hgr7
    try simp (maxDischargeDepth := 8) [↓bindV_some, ↓bindU_some, ↓condE_true, ↓condE_false, ↓pickE_true, ↓pickE_false, ↓pickE_or, ↓pickE_and, ↓grdE_true, ↓grdE_false, ↓grdE_tf, ↓grdE_ft, ↓grdE_undef, ↓nilE_pt, ↓thenK_normal, ↓thenK_exit, ↓thenK_ret, ↓thenK_goto, ↓thenK_panic, ↓blockK_exit, ↓blockK_normal, ↓blockK_ret, ↓blockK_goto, ↓blockK_panic, ↓loopK_normal, ↓loopK_exit, ↓loopK_ret, ↓loopK_goto, ↓loopK_panic, ↓topK_ret, ↓topK_normal, ↓topK_panic, ↓resVs_nil, ↓resVs_tmp, ↓resVs_cell, tup_one, tup_nil, tup_two, put_get, argE_get, ↓takeE_def, ↓heldE_nil, ↓heldE_cons, qNil_pt, qPick_bool, qGrd_bool, qGrd_undef, ↓letK_def, pBox_eq, pBin_add, pBin_sub, pBin_mul, pBin_eql, pBin_neq, pBin_lss, pBin_leq, pBin_gtr, pBin_geq, pUn_not, pUn_neg, eqB, neB, eqS, neS, pExtract0, pExtract1, pExtract2, max_int, min_int, sz_nw, sz_wr, sz_drew, mm_nw, fz_nw, mm_drew, fz_drew, fz_wr, sz_mkS, mm_mkS, fz_mkS, Fr.mkS, mm_wr_same, mm_wr_ne, wr_wr, bs_oneT, splice_full, gt_zero, gt_succ, gt_set, gt_bs, byte_eq0, byte_eq1, byte_n0, byte_n1, Fr.refl, Fr.nw, Fr.wr, Fr.drew, e13, hb67, hrun, es3, hw1, -bsl67, -Int.natCast_add]
    have hcl3 := lt_of_fz z3
    have hF3lt : ∀ k ∈ F3, k < sz w3 := hdA.ltF
    have hrl3 := hroA.lt
    have nF : ∀ k ∈ F3, k ∉ wv.ownBlock.toList := fun k hk hk2 => (hwv3 k (by simpa using hk2)).1 hk
    have ncb : cb ∉ wv.ownBlock.toList := fun hk2 => (hwv3 cb (by simpa using hk2)).2.1 rfl
    have nr : r ∉ wv.ownBlock.toList := fun hk2 => (hwv3 r (by simpa using hk2)).2.2 rfl
    have ht1 : tot (Lp ++ [p]) = tot Lp + need p.1.length := by
      unfold tot
      rw [List.map_append, List.map_singleton, total_snoc]
    have ht2 : tot (Lp1 ++ (Lp ++ [p])) = tot (Lp1 ++ Lp) + need p.1.length := by rw [tot_append, ht1, hpt]; omega
    have has : Lp1 ++ (Lp ++ [p]) = Lp1 ++ Lp ++ [p] := (List.append_assoc _ _ _).symm
    have hlaid2 := hS.laid.app (D' := D') (e := p.1) (by omega) hv'
    refine hfin _ _ wv2 (Lp ++ [p]) D' F3 (by simp; omega) ⟨(g3.trans0 f7).trans f8 (fun k hk => .inr (own_lt hown3 k (by simpa using hk)).1), (hdA.fr0 f7).fr f8 nF, hF3, ?_, hA.out, hc', ?_, ?_, ?_, ?_, ?_, ?_, ?_, ?_, ?_, ?_⟩ (by simp [put_get, es1]) (by simp [put_get, es2]) (by simp [put_get]) (by simp [put_get, e1]) (by simp [put_get, e2]) (by simp [put_get, e7]) (by simp [put_get, e9]) (by simp [put_get, e10]) (by simp [put_get])
    · rw [ht2]; exact (hroA.fr f7 (by simp)).fr f8 nr
    · rw [ht2, has, List.map_append, List.map_singleton, ← Nat.sub_sub]; exact hlaid2
    · rw [hpd, hS.pend, List.map_append, List.map_singleton, secsAll_snoc, runW_append, secsAll_len]
      have htq : total (Lp.map (·.1)) = tot Lp := rfl
      rw [htq, Nat.add_assoc, ← hpt]
    · rw [hfi', hS.firm]
    · rw [ht1]; have := hS.wrs; omega
    · rw [f8.mm (f7.lt hcl3) ncb, f7.mm hcl3 (by simp), m3]
    · rw [f8.fz (f7.lt hcl3) ncb, f7.fz hcl3 (by simp), z3]
    · rw [has, List.length_append, List.map_append]; exact hown7
    · intro c hcc
      rcases hwv7 with h | h
      · exact hwv3 c (by rw [← h]; exact hcc)
      · have : c = sz (nw w3 [p.2] 22) := by rw [h] at hcc; simpa using hcc.symm
        have := f7.size
        refine ⟨fun hk => by have := hF3lt c hk; omega, by omega, by omega⟩
    · intro q hq
      rw [has] at hq
      rcases List.mem_append.1 hq with hq | hq
      · exact hS.el q hq
      · rw [List.mem_singleton] at hq; subst hq; exact hv.el _ hpm
    · intro q hq
      rw [has] at hq
      rcases List.mem_append.1 hq with hq | hq
      · exact hS.short q hq
      · rw [List.mem_singleton] at hq; subst hq; omega
  · have hl1 : (j < L.length) = False := eq_false hjl
    have hl2 : ((j : Int) < L.length) = False := eq_false (by omega)
    try simp (maxDischargeDepth := 8) [↓bindV_some, ↓bindU_some, ↓condE_true, ↓condE_false, ↓pickE_true, ↓pickE_false, ↓pickE_or, ↓pickE_and, ↓grdE_true, ↓grdE_false, ↓grdE_tf, ↓grdE_ft, ↓grdE_undef, ↓nilE_pt, ↓thenK_normal, ↓thenK_exit, ↓thenK_ret, ↓thenK_goto, ↓thenK_panic, ↓blockK_exit, ↓blockK_normal, ↓blockK_ret, ↓blockK_goto, ↓blockK_panic, ↓loopK_normal, ↓loopK_exit, ↓loopK_ret, ↓loopK_goto, ↓loopK_panic, ↓topK_ret, ↓topK_normal, ↓topK_panic, ↓resVs_nil, ↓resVs_tmp, ↓resVs_cell, tup_one, tup_nil, tup_two, put_get, argE_get, ↓takeE_def, ↓heldE_nil, ↓heldE_cons, qNil_pt, qPick_bool, qGrd_bool, qGrd_undef, ↓letK_def, pBox_eq, pBin_add, pBin_sub, pBin_mul, pBin_eql, pBin_neq, pBin_lss, pBin_leq, pBin_gtr, pBin_geq, pUn_not, pUn_neg, eqB, neB, eqS, neS, pExtract0, pExtract1, pExtract2, max_int, min_int, sz_nw, sz_wr, sz_drew, mm_nw, fz_nw, mm_drew, fz_drew, fz_wr, sz_mkS, mm_mkS, fz_mkS, Fr.mkS, mm_wr_same, mm_wr_ne, wr_wr, bs_oneT, splice_full, gt_zero, gt_succ, gt_set, gt_bs, byte_eq0, byte_eq1, byte_n0, byte_n1, Fr.refl, Fr.nw, Fr.wr, Fr.drew, es2, es3, hl1, hl2]
    exact hX _ _ ⟨j, Lp, F, D, wv, by omega, hj, hjl0, hS, by simp [put_get, es1], by simp [put_get, es2], by simp [put_get, es3], by simp [put_get, e1], by simp [put_get, e2], by simp [put_get, e7], by simp [put_get, e9], by simp [put_get, e10], by simp [put_get, e13]⟩

def Fr1I (w : World) (L Lp1 : List (List UInt8 × Value)) (F0 : List (List UInt8)) (W0 : Int) (v : Value) (r b cb : Nat) (x1 x2 x16 : Value) (m : Nat) (e : Env) (w' : World) : Prop :=
  ∃ (j : Nat) (Lp : List (List UInt8 × Value)) (F : List Nat) (D : DD) (wv : Value), m = L.length - j ∧ j ≤ L.length ∧ Lp.length ≤ j ∧ FrS w Lp1 Lp F0 W0 r b cb D F wv w' ∧
    e 70 = v ∧ e 71 = i64 L.length ∧ e 72 = i64 j ∧ e 1 = x1 ∧ e 2 = x2 ∧ e 7 = pt b 0 ∧ e 9 = pt cb 0 ∧ e 10 = pt r 0 ∧ e 13 = wv ∧ e 16 = x16
theorem fr1_step {w : World} {L Lp1 : List (List UInt8 × Value)} {F0 : List (List UInt8)} {W0 : Int} {v : Value} {r b cb : Nat} {x1 x2 x16 : Value} (hv : IsE w v L) (hbig : bigM L) (h20 : Lp1.length ≤ 20) (hW0 : W0 ≤ 1000) (hr : sz w ≤ r) (hcb : sz w ≤ cb) (hrc : r ≠ cb) {m : Nat} {e : Env} {w1 : World}
    (hI : Fr1I w L Lp1 F0 W0 v r b cb x1 x2 x16 m e w1) {K : KT} (hN' : ∀ m' e' w', m' < m → Fr1I w L Lp1 F0 W0 v r b cb x1 x2 x16 m' e' w' → K .normal e' w') (hX : ∀ e' w', Fr1I w L Lp1 F0 W0 v r b cb x1 x2 x16 0 e' w' → K (.exit 2) e' w') : F15B1 e w1 K := by
  obtain ⟨j, Lp, F, D, wv, hm, hj, hjl0, hS, es1, es2, es3, e1, e2, e7, e9, e10, e13, e16⟩ := hI
  subst hm
  obtain ⟨hb1, hb2⟩ := hbig
  unfold F15B1
  have htl : tot (Lp1 ++ Lp) + (290 - tot (Lp1 ++ Lp)) = 290 := hS.laid.1
  have hpt : tot (Lp1 ++ Lp) = tot Lp1 + tot Lp := tot_append _ _
  have hpl : D.pend.length = tot Lp := by rw [hS.pend, runW_len, secsAll_len]; rfl
  by_cases hjl : j < L.length
  · have hl1 : (j < L.length) = True := eq_true hjl
    have hl2 : ((j : Int) < L.length) = True := eq_true (by omega)
    obtain ⟨p, hp⟩ : ∃ p, L[j]? = some p := ⟨_, List.getElem?_eq_getElem hjl⟩
    have hpm := List.mem_of_getElem? hp
    have hp5 := hb2 p hpm
    obtain ⟨pb, po, pc, hv2, hin, hgp⟩ := (hv.fr0 hS.fr).at hp
    have hia : ∀ w', pIndexAddr P 67 v (i64 j) w' = some (pt pb (po + j), w') := fun w' => by
      rw [hv2]
      have := ia67 (w := w') (b := pb) (o := po) (n := L.length) (c := pc) (k := .i64) (j := (j : Int)) (by omega) (by omega)
      rw [this]; simp
    have hlp : pLoad P 22 (pt pb (po + j)) w1 = some (p.2, w1) := by rw [ld22 hin, hgp]
    obtain ⟨pa, pcc, hpv⟩ := sl_of (hv.el p hpm)
    have hw1 : IntKind.i64.wrap ((j : Int) + 1) = ((j + 1 : Nat) : Int) := wrap64 (by omega) (by omega)
    have hpF : 0 < p.1.length → ∀ k, p.2.ownBlock = some k → k ∉ F := fun h0 k hk hkF => by
      have := rd_old (hv.el p hpm) h0 hk
      have := (hS.hF k hkF).1
      omega
    have hap := append_spec (fr := 7) (ln := 290) (at_ := tot (Lp1 ++ Lp)) (B := p.1) hS.roll hS.isd hS.rF ((hv.el p hpm).fr0 hS.fr) hpF hp5 (by omega) (by omega) (by omega) (by have := hS.wrs; omega)
    try simp (maxDischargeDepth := 8) [↓bindV_some, ↓bindU_some, ↓condE_true, ↓condE_false, ↓pickE_true, ↓pickE_false, ↓pickE_or, ↓pickE_and, ↓grdE_true, ↓grdE_false, ↓grdE_tf, ↓grdE_ft, ↓grdE_undef, ↓nilE_pt, ↓thenK_normal, ↓thenK_exit, ↓thenK_ret, ↓thenK_goto, ↓thenK_panic, ↓blockK_exit, ↓blockK_normal, ↓blockK_ret, ↓blockK_goto, ↓blockK_panic, ↓loopK_normal, ↓loopK_exit, ↓loopK_ret, ↓loopK_goto, ↓loopK_panic, ↓topK_ret, ↓topK_normal, ↓topK_panic, ↓resVs_nil, ↓resVs_tmp, ↓resVs_cell, tup_one, tup_nil, tup_two, put_get, argE_get, ↓takeE_def, ↓heldE_nil, ↓heldE_cons, qNil_pt, qPick_bool, qGrd_bool, qGrd_undef, ↓letK_def, pBox_eq, pBin_add, pBin_sub, pBin_mul, pBin_eql, pBin_neq, pBin_lss, pBin_leq, pBin_gtr, pBin_geq, pUn_not, pUn_neg, eqB, neB, eqS, neS, pExtract0, pExtract1, pExtract2, max_int, min_int, sz_nw, sz_wr, sz_drew, mm_nw, fz_nw, mm_drew, fz_drew, fz_wr, sz_mkS, mm_mkS, fz_mkS, Fr.mkS, mm_wr_same, mm_wr_ne, wr_wr, bs_oneT, splice_full, gt_zero, gt_succ, gt_set, gt_bs, byte_eq0, byte_eq1, byte_n0, byte_n1, Fr.refl, Fr.nw, Fr.wr, Fr.drew, es1, es2, es3, e10, hl1, hl2, hia, hlp, -ld22]
    refine hap.call ?_
    rintro x w3 ⟨F3, hA⟩
    have hx := hA.val
    subst hx
    have hF3 : ∀ k ∈ F3, sz w ≤ k ∧ k ≠ cb := fun k hk => by
      rcases hA.new k hk with h | h
      · exact hS.hF k h
      · have := hS.fr.size; have := lt_of_fz hS.zcb; omega
    have hcbn : cb ∉ r :: F := fun hk => by
      rcases List.mem_cons.1 hk with h | h
      · exact hrc h.symm
      · exact (hS.hF _ h).2 rfl
    have g3 : Fr [] w w3 := hS.fr.trans hA.fr' (fun k hk => .inr (by
      rcases List.mem_cons.1 hk with h | h
      · omega
      · exact (hS.hF k h).1))
    have z3 : fz w3 cb = false := by rw [hA.fr'.fz (lt_of_fz hS.zcb) hcbn, hS.zcb]
    have m3 : mm w3 cb = [i64 7, i64 290] := by rw [hA.fr'.mm (lt_of_fz hS.zcb) hcbn, hS.mcb]
    have hown3 := own_fr hS.own hA.fr' (fun c hc hk => by
      rcases List.mem_cons.1 hk with h | h
      · exact (hS.apart c hc).2.2 h
      · exact (hS.apart c hc).1 h)
    have hwv3 : ∀ c, wv.ownBlock = some c → c ∉ F3 ∧ c ≠ cb ∧ c ≠ r := fun c hc => by
      refine ⟨fun hk => ?_, (hS.apart c hc).2⟩
      rcases hA.new c hk with h | h
      · exact (hS.apart c hc).1 h
      · have := (own_lt hS.own c hc).2; omega
    have asit : ∀ (code : Int), appM 7 290 (tot (Lp1 ++ Lp)) p.1 D = (D, code, tot (Lp1 ++ Lp)) → FrS w Lp1 Lp F0 W0 r b cb D F3 wv w3 := fun code hG => by
      have h1 := hA.isd
      have h2 := hA.roll
      rw [hG] at h1 h2
      exact ⟨g3, h1, hF3, h2, hA.out, hS.calm, hS.laid, hS.pend, hS.firm, hS.wrs, m3, z3, hown3, hwv3, hS.el, hS.short⟩
    obtain ⟨code, hcode⟩ : ∃ code, code = (appM 7 290 (tot (Lp1 ++ Lp)) p.1 D).2.1 := ⟨_, rfl⟩
    rw [← hcode]
    have hfin : ∀ (e' : Env) (w' : World) (wv' : Value) (Lp' : List (List UInt8 × Value)) (D' : DD) (F' : List Nat), Lp'.length ≤ j + 1 → FrS w Lp1 Lp' F0 W0 r b cb D' F' wv' w' → e' 70 = v → e' 71 = i64 L.length → e' 72 = i64 ((j + 1 : Nat) : Int) → e' 1 = x1 → e' 2 = x2 → e' 7 = pt b 0 → e' 9 = pt cb 0 → e' 10 = pt r 0 → e' 13 = wv' → e' 16 = x16 → K .normal e' w' :=
      fun e' w' wv' Lp' D' F' k1 k2 k3 k4 k5 k6 k7 k8 k9 k10 k11 k12 => hN' (L.length - (j + 1)) e' w' (by omega) ⟨j + 1, Lp', F', D', wv', rfl, by omega, k1, k2, k3, k4, k5, k6, k7, k8, k9, k10, k11, k12⟩
    by_cases hlong : 3840 < p.1.length
    · have hG := appM_long (fr := 7) (ln := 290) (at_ := tot (Lp1 ++ Lp)) (B := p.1) hS.calm.down hlong
      rw [hG] at hcode
      simp only at hcode
      subst hcode
      try simp (maxDischargeDepth := 8) [↓bindV_some, ↓bindU_some, ↓condE_true, ↓condE_false, ↓pickE_true, ↓pickE_false, ↓pickE_or, ↓pickE_and, ↓grdE_true, ↓grdE_false, ↓grdE_tf, ↓grdE_ft, ↓grdE_undef, ↓nilE_pt, ↓thenK_normal, ↓thenK_exit, ↓thenK_ret, ↓thenK_goto, ↓thenK_panic, ↓blockK_exit, ↓blockK_normal, ↓blockK_ret, ↓blockK_goto, ↓blockK_panic, ↓loopK_normal, ↓loopK_exit, ↓loopK_ret, ↓loopK_goto, ↓loopK_panic, ↓topK_ret, ↓topK_normal, ↓topK_panic, ↓resVs_nil, ↓resVs_tmp, ↓resVs_cell, tup_one, tup_nil, tup_two, put_get, argE_get, ↓takeE_def, ↓heldE_nil, ↓heldE_cons, qNil_pt, qPick_bool, qGrd_bool, qGrd_undef, ↓letK_def, pBox_eq, pBin_add, pBin_sub, pBin_mul, pBin_eql, pBin_neq, pBin_lss, pBin_leq, pBin_gtr, pBin_geq, pUn_not, pUn_neg, eqB, neB, eqS, neS, pExtract0, pExtract1, pExtract2, max_int, min_int, sz_nw, sz_wr, sz_drew, mm_nw, fz_nw, mm_drew, fz_drew, fz_wr, sz_mkS, mm_mkS, fz_mkS, Fr.mkS, mm_wr_same, mm_wr_ne, wr_wr, bs_oneT, splice_full, gt_zero, gt_succ, gt_set, gt_bs, byte_eq0, byte_eq1, byte_n0, byte_n1, Fr.refl, Fr.nw, Fr.wr, Fr.drew, es3, hw1, -Int.natCast_add]
      exact hfin _ _ wv Lp D F3 (by omega) (asit 3 hG) (by simp [put_get, es1]) (by simp [put_get, es2]) (by simp [put_get]) (by simp [put_get, e1]) (by simp [put_get, e2]) (by simp [put_get, e7]) (by simp [put_get, e9]) (by simp [put_get, e10]) (by simp [put_get, e13]) (by simp [put_get, e16])
    by_cases hfull : 290 - tot (Lp1 ++ Lp) < need p.1.length
    · have hG := appM_full (fr := 7) (ln := 290) (at_ := tot (Lp1 ++ Lp)) (B := p.1) (D := D) hS.calm.down (by omega) (by omega) (by omega)
      rw [hG] at hcode
      simp only at hcode
      subst hcode
      try simp (maxDischargeDepth := 8) [↓bindV_some, ↓bindU_some, ↓condE_true, ↓condE_false, ↓pickE_true, ↓pickE_false, ↓pickE_or, ↓pickE_and, ↓grdE_true, ↓grdE_false, ↓grdE_tf, ↓grdE_ft, ↓grdE_undef, ↓nilE_pt, ↓thenK_normal, ↓thenK_exit, ↓thenK_ret, ↓thenK_goto, ↓thenK_panic, ↓blockK_exit, ↓blockK_normal, ↓blockK_ret, ↓blockK_goto, ↓blockK_panic, ↓loopK_normal, ↓loopK_exit, ↓loopK_ret, ↓loopK_goto, ↓loopK_panic, ↓topK_ret, ↓topK_normal, ↓topK_panic, ↓resVs_nil, ↓resVs_tmp, ↓resVs_cell, tup_one, tup_nil, tup_two, put_get, argE_get, ↓takeE_def, ↓heldE_nil, ↓heldE_cons, qNil_pt, qPick_bool, qGrd_bool, qGrd_undef, ↓letK_def, pBox_eq, pBin_add, pBin_sub, pBin_mul, pBin_eql, pBin_neq, pBin_lss, pBin_leq, pBin_gtr, pBin_geq, pUn_not, pUn_neg, eqB, neB, eqS, neS, pExtract0, pExtract1, pExtract2, max_int, min_int, sz_nw, sz_wr, sz_drew, mm_nw, fz_nw, mm_drew, fz_drew, fz_wr, sz_mkS, mm_mkS, fz_mkS, Fr.mkS, mm_wr_same, mm_wr_ne, wr_wr, bs_oneT, splice_full, gt_zero, gt_succ, gt_set, gt_bs, byte_eq0, byte_eq1, byte_n0, byte_n1, Fr.refl, Fr.nw, Fr.wr, Fr.drew, es3, hw1, -Int.natCast_add]
      exact hfin _ _ wv Lp D F3 (by omega) (asit 8 hG) (by simp [put_get, es1]) (by simp [put_get, es2]) (by simp [put_get]) (by simp [put_get, e1]) (by simp [put_get, e2]) (by simp [put_get, e7]) (by simp [put_get, e9]) (by simp [put_get, e10]) (by simp [put_get, e13]) (by simp [put_get, e16])
    obtain ⟨D', hG, hc', hv', hpl', hwl', hfi'⟩ := appM_ok (N := 300) (fr := 7) (ln := 290) (at_ := tot (Lp1 ++ Lp)) (B := p.1) hS.calm (by omega) (by omega) (by omega)
    have hpd := appM_run hS.calm (by omega) (by omega) (by omega) hG
    rw [hG] at hcode
    simp only at hcode
    subst hcode
    have hdA := hA.isd
    have hroA := hA.roll
    rw [hG] at hdA hroA
    simp only at hdA hroA
    have hb67 : ∀ w, pBuildSlice P 67 1 [(0, p.2)] w = some (sl (sz w) 0 1 1, nw w [p.2] 22) := fun w => by rw [hpv]; exact b67
    have f7 : Fr [] w3 (nw w3 [p.2] 22) := (Fr.refl [] w3).nw _ _
    have hrd7 : RdV (nw w3 [p.2] 22) (sl (sz w3) 0 1 1) 1 [p.2] := rd_new w3 [p.2] 22 (n := 1) (by unfold maxLen; omega)
    have hLA : (Lp1 ++ Lp).length ≤ 60 := by rw [List.length_append]; omega
    obtain ⟨wv2, w7, hrun, hown7, hgr7, hwv7⟩ := append_own2 (P := P) (t := 67) (ty := 67) (sz w) sliceE67 hasZero22 cellsOf22 (by rw [zeroL22]; rfl) (by omega) (own_fr hown3 f7 (by simp)) (by have := (g3.trans0 f7).size; omega) hrd7 (by simp) (by rw [hpv]; simp)
      (by unfold maxLen; omega) (by rw [bytesOf22]; omega)
    have f8 := Fr.of_grown hgr7
    try simp (maxDischargeDepth := 8) [↓bindV_some, ↓bindU_some, ↓condE_true, ↓condE_false, ↓pickE_true, ↓pickE_false, ↓pickE_or, ↓pickE_and, ↓grdE_true, ↓grdE_false, ↓grdE_tf, ↓grdE_ft, ↓grdE_undef, ↓nilE_pt, ↓thenK_normal, ↓thenK_exit, ↓thenK_ret, ↓thenK_goto, ↓thenK_panic, ↓blockK_exit, ↓blockK_normal, ↓blockK_ret, ↓blockK_goto, ↓blockK_panic, ↓loopK_normal, ↓loopK_exit, ↓loopK_ret, ↓loopK_goto, ↓loopK_panic, ↓topK_ret, ↓topK_normal, ↓topK_panic, ↓resVs_nil, ↓resVs_tmp, ↓resVs_cell, tup_one, tup_nil, tup_two, put_get, argE_get, ↓takeE_def, ↓heldE_nil, ↓heldE_cons, qNil_pt, qPick_bool, qGrd_bool, qGrd_undef, ↓letK_def, pBox_eq, pBin_add, pBin_sub, pBin_mul, pBin_eql, pBin_neq, pBin_lss, pBin_leq, pBin_gtr, pBin_geq, pUn_not, pUn_neg, eqB, neB, eqS, neS, pExtract0, pExtract1, pExtract2, max_int, min_int, sz_nw, sz_wr, sz_drew, mm_nw, fz_nw, mm_drew, fz_drew, fz_wr, sz_mkS, mm_mkS, fz_mkS, Fr.mkS, mm_wr_same, mm_wr_ne, wr_wr, bs_oneT, splice_full, gt_zero, gt_succ, gt_set, gt_bs, byte_eq0, byte_eq1, byte_n0, byte_n1, Fr.refl, Fr.nw, Fr.wr, Fr.drew, e13, hb67, hrun, es3, hw1, -bsl67, -Int.natCast_add]
    have hcl3 := lt_of_fz z3
    have hF3lt : ∀ k ∈ F3, k < sz w3 := hdA.ltF
    have hrl3 := hroA.lt
    have nF : ∀ k ∈ F3, k ∉ wv.ownBlock.toList := fun k hk hk2 => (hwv3 k (by simpa using hk2)).1 hk
    have ncb : cb ∉ wv.ownBlock.toList := fun hk2 => (hwv3 cb (by simpa using hk2)).2.1 rfl
    have nr : r ∉ wv.ownBlock.toList := fun hk2 => (hwv3 r (by simpa using hk2)).2.2 rfl
    have ht1 : tot (Lp ++ [p]) = tot Lp + need p.1.length := by
      unfold tot
      rw [List.map_append, List.map_singleton, total_snoc]
    have ht2 : tot (Lp1 ++ (Lp ++ [p])) = tot (Lp1 ++ Lp) + need p.1.length := by rw [tot_append, ht1, hpt]; omega
    have has : Lp1 ++ (Lp ++ [p]) = Lp1 ++ Lp ++ [p] := (List.append_assoc _ _ _).symm
    have hlaid2 := hS.laid.app (D' := D') (e := p.1) (by omega) hv'
    refine hfin _ _ wv2 (Lp ++ [p]) D' F3 (by simp; omega) ⟨(g3.trans0 f7).trans f8 (fun k hk => .inr (own_lt hown3 k (by simpa using hk)).1), (hdA.fr0 f7).fr f8 nF, hF3, ?_, hA.out, hc', ?_, ?_, ?_, ?_, ?_, ?_, ?_, ?_, ?_, ?_⟩ (by simp [put_get, es1]) (by simp [put_get, es2]) (by simp [put_get]) (by simp [put_get, e1]) (by simp [put_get, e2]) (by simp [put_get, e7]) (by simp [put_get, e9]) (by simp [put_get, e10]) (by simp [put_get]) (by simp [put_get, e16])
    · rw [ht2]; exact (hroA.fr f7 (by simp)).fr f8 nr
    · rw [ht2, has, List.map_append, List.map_singleton, ← Nat.sub_sub]; exact hlaid2
    · rw [hpd, hS.pend, List.map_append, List.map_singleton, secsAll_snoc, runW_append, secsAll_len]
      have htq : total (Lp.map (·.1)) = tot Lp := rfl
      rw [htq, Nat.add_assoc, ← hpt]
    · rw [hfi', hS.firm]
    · rw [ht1]; have := hS.wrs; omega
    · rw [f8.mm (f7.lt hcl3) ncb, f7.mm hcl3 (by simp), m3]
    · rw [f8.fz (f7.lt hcl3) ncb, f7.fz hcl3 (by simp), z3]
    · rw [has, List.length_append, List.map_append]; exact hown7
    · intro c hcc
      rcases hwv7 with h | h
      · exact hwv3 c (by rw [← h]; exact hcc)
      · have : c = sz (nw w3 [p.2] 22) := by rw [h] at hcc; simpa using hcc.symm
        have := f7.size
        refine ⟨fun hk => by have := hF3lt c hk; omega, by omega, by omega⟩
    · intro q hq
      rw [has] at hq
      rcases List.mem_append.1 hq with hq | hq
      · exact hS.el q hq
      · rw [List.mem_singleton] at hq; subst hq; exact hv.el _ hpm
    · intro q hq
      rw [has] at hq
      rcases List.mem_append.1 hq with hq | hq
      · exact hS.short q hq
      · rw [List.mem_singleton] at hq; subst hq; omega
  · have hl1 : (j < L.length) = False := eq_false hjl
    have hl2 : ((j : Int) < L.length) = False := eq_false (by omega)
    try simp (maxDischargeDepth := 8) [↓bindV_some, ↓bindU_some, ↓condE_true, ↓condE_false, ↓pickE_true, ↓pickE_false, ↓pickE_or, ↓pickE_and, ↓grdE_true, ↓grdE_false, ↓grdE_tf, ↓grdE_ft, ↓grdE_undef, ↓nilE_pt, ↓thenK_normal, ↓thenK_exit, ↓thenK_ret, ↓thenK_goto, ↓thenK_panic, ↓blockK_exit, ↓blockK_normal, ↓blockK_ret, ↓blockK_goto, ↓blockK_panic, ↓loopK_normal, ↓loopK_exit, ↓loopK_ret, ↓loopK_goto, ↓loopK_panic, ↓topK_ret, ↓topK_normal, ↓topK_panic, ↓resVs_nil, ↓resVs_tmp, ↓resVs_cell, tup_one, tup_nil, tup_two, put_get, argE_get, ↓takeE_def, ↓heldE_nil, ↓heldE_cons, qNil_pt, qPick_bool, qGrd_bool, qGrd_undef, ↓letK_def, pBox_eq, pBin_add, pBin_sub, pBin_mul, pBin_eql, pBin_neq, pBin_lss, pBin_leq, pBin_gtr, pBin_geq, pUn_not, pUn_neg, eqB, neB, eqS, neS, pExtract0, pExtract1, pExtract2, max_int, min_int, sz_nw, sz_wr, sz_drew, mm_nw, fz_nw, mm_drew, fz_drew, fz_wr, sz_mkS, mm_mkS, fz_mkS, Fr.mkS, mm_wr_same, mm_wr_ne, wr_wr, bs_oneT, splice_full, gt_zero, gt_succ, gt_set, gt_bs, byte_eq0, byte_eq1, byte_n0, byte_n1, Fr.refl, Fr.nw, Fr.wr, Fr.drew, es2, es3, hl1, hl2]
    exact hX _ _ ⟨j, Lp, F, D, wv, by omega, hj, hjl0, hS, by simp [put_get, es1], by simp [put_get, es2], by simp [put_get, es3], by simp [put_get, e1], by simp [put_get, e2], by simp [put_get, e7], by simp [put_get, e9], by simp [put_get, e10], by simp [put_get, e13], by simp [put_get, e16]⟩
end Go.Proofs.Yticncfkpfpkfoaa
