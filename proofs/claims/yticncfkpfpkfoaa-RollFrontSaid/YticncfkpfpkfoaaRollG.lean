/- Rows of entries that are only read: same (f52), big (f54). -/
import Derived.Test.YticncfkpfpkfoaaRollF
set_option linter.unusedVariables false
set_option linter.unusedSimpArgs false
namespace Go.Proofs.Yticncfkpfpkfoaa
open Go

structure IsE (w : World) (v : Value) (Lp : List (List UInt8 × Value)) : Prop where
  row : RdV w v Lp.length (Lp.map (·.2))
  el : ∀ p ∈ Lp, RdV w p.2 p.1.length (bs p.1)
theorem IsE.fr0 {w w' : World} {v : Value} {Lp : List (List UInt8 × Value)} (h : IsE w v Lp) (hf : Fr [] w w') : IsE w' v Lp := ⟨h.row.fr0 hf, fun p hp => (h.el p hp).fr0 hf⟩
theorem IsE.fr {w w' : World} {v : Value} {Lp : List (List UInt8 × Value)} {S : List Nat} (h : IsE w v Lp) (hf : Fr S w w') (h1 : ∀ k, v.ownBlock = some k → k ∉ S) (h2 : ∀ p ∈ Lp, ∀ k, p.2.ownBlock = some k → k ∉ S) : IsE w' v Lp :=
  ⟨h.row.fr hf h1, fun p hp => (h.el p hp).fr hf (h2 p hp)⟩
theorem EntR.isE {base : Nat} {w : World} {x : Value} {Lp : List (List UInt8 × Value)} (h : EntR base w x Lp) : IsE w x Lp := ⟨own_rd h.own, h.el⟩
theorem IsE.at {w : World} {v : Value} {Lp : List (List UInt8 × Value)} (h : IsE w v Lp) {j : Nat} {p : List UInt8 × Value} (hp : Lp[j]? = some p) :
    ∃ b o c, v = sl b o Lp.length c ∧ o + j < (mm w b).length ∧ gt (mm w b) (o + j) = p.2 := by
  have hj := (List.getElem?_eq_some_iff.1 hp).1
  have h2 := h.row
  rcases id h2 with ⟨_, _, _, h0, _⟩ | ⟨ab, ao, ac, rfl, _⟩
  · omega
  · obtain ⟨q1, q2⟩ := h2.cell (j := j) (by simpa using hj)
    exact ⟨ab, ao, ac, rfl, q1, q2.trans (by simp [gt, hp])⟩
def S67I (w : World) (v u : Value) (L M : List (List UInt8 × Value)) (m : Nat) (e : Env) (w' : World) : Prop :=
  ∃ j : Nat, m = L.length - j ∧ j ≤ L.length ∧ j ≤ M.length ∧ Fr [] w w' ∧ (L.map (·.1)).take j = (M.map (·.1)).take j ∧ e 0 = v ∧ e 1 = u ∧ e 6 = v ∧ e 7 = i64 L.length ∧ e 8 = i64 j
theorem same19_spec {w : World} {v u : Value} {L M : List (List UInt8 × Value)} (h : IsE w v L) (h2 : IsE w u M) :
    Ret P 52 #[v, u] w fun x w' => x = .bool (decide (L.map (·.1) = M.map (·.1))) ∧ Fr [] w w' := by
  refine F52ok ?_
  unfold F52
  obtain ⟨va, vc, hv⟩ := sl_of h.row
  obtain ⟨ua, uc, hu⟩ := sl_of h2.row
  have hm1 := h.row.len
  have hm2 := h2.row.len
  have hlv : ∀ w, pBuiltin P .len #[67] 3 [v] w = some (i64 L.length, w) := fun w => by rw [hv]; exact len67
  have hlu : ∀ w, pBuiltin P .len #[67] 3 [u] w = some (i64 M.length, w) := fun w => by rw [hu]; exact len67
  try simp (maxDischargeDepth := 8) [↓bindV_some, ↓bindU_some, ↓condE_true, ↓condE_false, ↓pickE_true, ↓pickE_false, ↓pickE_or, ↓pickE_and, ↓grdE_true, ↓grdE_false, ↓grdE_tf, ↓grdE_ft, ↓grdE_undef, ↓nilE_pt, ↓thenK_normal, ↓thenK_exit, ↓thenK_ret, ↓thenK_goto, ↓thenK_panic, ↓blockK_exit, ↓blockK_normal, ↓blockK_ret, ↓blockK_goto, ↓blockK_panic, ↓loopK_normal, ↓loopK_exit, ↓loopK_ret, ↓loopK_goto, ↓loopK_panic, ↓topK_ret, ↓topK_normal, ↓topK_panic, ↓resVs_nil, ↓resVs_tmp, ↓resVs_cell, tup_one, tup_nil, tup_two, put_get, argE_get, ↓takeE_def, ↓heldE_nil, ↓heldE_cons, qNil_pt, qPick_bool, qGrd_bool, qGrd_undef, ↓letK_def, pBox_eq, pBin_add, pBin_sub, pBin_mul, pBin_eql, pBin_neq, pBin_lss, pBin_leq, pBin_gtr, pBin_geq, pUn_not, pUn_neg, eqB, neB, eqS, neS, pExtract0, pExtract1, pExtract2, max_int, min_int, sz_nw, sz_wr, sz_drew, mm_nw, fz_nw, mm_drew, fz_drew, fz_wr, sz_mkS, mm_mkS, fz_mkS, Fr.mkS, mm_wr_same, mm_wr_ne, wr_wr, bs_oneT, splice_full, gt_zero, gt_succ, gt_set, gt_bs, byte_eq0, byte_eq1, byte_n0, byte_n1, Fr.refl, Fr.nw, Fr.wr, Fr.drew, hlv]
  refine loopE_of (S67I w v u L M) L.length ⟨0, by omega, by omega, by omega, Fr.refl _ _, rfl, by simp [put_get, argE_get], by simp [put_get, argE_get], by simp [put_get], by simp [put_get], by simp [put_get]⟩ ?_
  rintro m e w1 ⟨j, hm, hj, hjM, hf, heq, e0, e1, e6, e7, e8⟩
  subst hm
  unfold F52B0
  by_cases hjl : j < L.length
  · have hji : ((j : Int) < L.length) = True := eq_true (by omega)
    have hjl' : (j < L.length) = True := eq_true hjl
    obtain ⟨p, hp⟩ : ∃ p, L[j]? = some p := ⟨_, List.getElem?_eq_getElem hjl⟩
    have hf1 := hf.drew
    obtain ⟨pb, po, pc, hv2, hin, hgp⟩ := (h.fr0 hf1).at hp
    have hwj : IntKind.i64.wrap ((j : Int) + 1) = ((j + 1 : Nat) : Int) := wrap64 (by omega) (by omega)
    have hia : ∀ w', pIndexAddr P 67 v (i64 j) w' = some (pt pb (po + j), w') := fun w' => by
      rw [hv2]
      have := ia67 (w := w') (b := pb) (o := po) (n := L.length) (c := pc) (k := .i64) (j := (j : Int)) (by omega) (by omega)
      rw [this]; simp
    have hlp : pLoad P 22 (pt pb (po + j)) (drew w1) = some (p.2, drew w1) := by rw [ld22 hin, hgp]
    have hcp : pConv P 22 9 p.2 (drew w1) = some (strB p.1, drew w1) := conv_str sliceE22 intK5 und9 ((h.fr0 hf1).el p (List.mem_of_getElem? hp))
    by_cases hjm : j < M.length
    · obtain ⟨q, hq⟩ : ∃ q, M[j]? = some q := ⟨_, List.getElem?_eq_getElem hjm⟩
      obtain ⟨qb, qo, qc, hv3, hin2, hgq⟩ := (h2.fr0 hf1).at hq
      have hib : ∀ w', pIndexAddr P 67 u (i64 j) w' = some (pt qb (qo + j), w') := fun w' => by
        rw [hv3]
        have := ia67 (w := w') (b := qb) (o := qo) (n := M.length) (c := qc) (k := .i64) (j := (j : Int)) (by omega) (by omega)
        rw [this]; simp
      have hlq : pLoad P 22 (pt qb (qo + j)) (drew w1) = some (q.2, drew w1) := by rw [ld22 hin2, hgq]
      have hcq : pConv P 22 9 q.2 (drew w1) = some (strB q.1, drew w1) := conv_str sliceE22 intK5 und9 ((h2.fr0 hf1).el q (List.mem_of_getElem? hq))
      have c1 : ((M.length : Int) ≤ j) = False := eq_false (by omega)
      have c2 : (M.length ≤ j) = False := eq_false (by omega)
      have hne : ∀ w, pBin P .neq 9 false (strB p.1) (strB q.1) w = some (.bool (decide (p.1 ≠ q.1)), w) := fun w => ne_strB
      by_cases hpq : p.1 = q.1
      · have d1 : decide (p.1 ≠ q.1) = false := by simpa using hpq
        rw [d1] at hne
        try simp (maxDischargeDepth := 8) [↓bindV_some, ↓bindU_some, ↓condE_true, ↓condE_false, ↓pickE_true, ↓pickE_false, ↓pickE_or, ↓pickE_and, ↓grdE_true, ↓grdE_false, ↓grdE_tf, ↓grdE_ft, ↓grdE_undef, ↓nilE_pt, ↓thenK_normal, ↓thenK_exit, ↓thenK_ret, ↓thenK_goto, ↓thenK_panic, ↓blockK_exit, ↓blockK_normal, ↓blockK_ret, ↓blockK_goto, ↓blockK_panic, ↓loopK_normal, ↓loopK_exit, ↓loopK_ret, ↓loopK_goto, ↓loopK_panic, ↓topK_ret, ↓topK_normal, ↓topK_panic, ↓resVs_nil, ↓resVs_tmp, ↓resVs_cell, tup_one, tup_nil, tup_two, put_get, argE_get, ↓takeE_def, ↓heldE_nil, ↓heldE_cons, qNil_pt, qPick_bool, qGrd_bool, qGrd_undef, ↓letK_def, pBox_eq, pBin_add, pBin_sub, pBin_mul, pBin_eql, pBin_neq, pBin_lss, pBin_leq, pBin_gtr, pBin_geq, pUn_not, pUn_neg, eqB, neB, eqS, neS, pExtract0, pExtract1, pExtract2, max_int, min_int, sz_nw, sz_wr, sz_drew, mm_nw, fz_nw, mm_drew, fz_drew, fz_wr, sz_mkS, mm_mkS, fz_mkS, Fr.mkS, mm_wr_same, mm_wr_ne, wr_wr, bs_oneT, splice_full, gt_zero, gt_succ, gt_set, gt_bs, byte_eq0, byte_eq1, byte_n0, byte_n1, Fr.refl, Fr.nw, Fr.wr, Fr.drew, e0, e1, e6, e7, e8, hji, hjl', hlu, c1, c2, hia, hib, hlp, hlq, hcp, hcq, hne, hwj, -ld22, -Int.natCast_add]
        exact ⟨L.length - (j + 1), by omega, j + 1, rfl, by omega, by omega, hf1, by rw [List.take_add_one, List.take_add_one, heq, List.getElem?_map, List.getElem?_map, hp, hq]; simp [hpq], by simp [put_get, e0], by simp [put_get, e1], by simp [put_get, e6], by simp [put_get, e7], by simp [put_get]⟩
      · have d1 : decide (p.1 ≠ q.1) = true := by simpa using hpq
        rw [d1] at hne
        have hLM : ¬ L.map (·.1) = M.map (·.1) := by
          intro he
          have := congrArg (fun l => l[j]?) he
          simp only [List.getElem?_map, hp, hq, Option.map_some, Option.some.injEq] at this
          exact hpq this
        try simp (maxDischargeDepth := 8) [↓bindV_some, ↓bindU_some, ↓condE_true, ↓condE_false, ↓pickE_true, ↓pickE_false, ↓pickE_or, ↓pickE_and, ↓grdE_true, ↓grdE_false, ↓grdE_tf, ↓grdE_ft, ↓grdE_undef, ↓nilE_pt, ↓thenK_normal, ↓thenK_exit, ↓thenK_ret, ↓thenK_goto, ↓thenK_panic, ↓blockK_exit, ↓blockK_normal, ↓blockK_ret, ↓blockK_goto, ↓blockK_panic, ↓loopK_normal, ↓loopK_exit, ↓loopK_ret, ↓loopK_goto, ↓loopK_panic, ↓topK_ret, ↓topK_normal, ↓topK_panic, ↓resVs_nil, ↓resVs_tmp, ↓resVs_cell, tup_one, tup_nil, tup_two, put_get, argE_get, ↓takeE_def, ↓heldE_nil, ↓heldE_cons, qNil_pt, qPick_bool, qGrd_bool, qGrd_undef, ↓letK_def, pBox_eq, pBin_add, pBin_sub, pBin_mul, pBin_eql, pBin_neq, pBin_lss, pBin_leq, pBin_gtr, pBin_geq, pUn_not, pUn_neg, eqB, neB, eqS, neS, pExtract0, pExtract1, pExtract2, max_int, min_int, sz_nw, sz_wr, sz_drew, mm_nw, fz_nw, mm_drew, fz_drew, fz_wr, sz_mkS, mm_mkS, fz_mkS, Fr.mkS, mm_wr_same, mm_wr_ne, wr_wr, bs_oneT, splice_full, gt_zero, gt_succ, gt_set, gt_bs, byte_eq0, byte_eq1, byte_n0, byte_n1, Fr.refl, Fr.nw, Fr.wr, Fr.drew, e0, e1, e6, e7, e8, hji, hjl', hlu, c1, c2, hia, hib, hlp, hlq, hcp, hcq, hne, -ld22]
        exact ⟨by simpa using hLM, hf1⟩
    · have c1 : ((M.length : Int) ≤ j) = True := eq_true (by omega)
      have c2 : (M.length ≤ j) = True := eq_true (by omega)
      have hLM : ¬ L.map (·.1) = M.map (·.1) := by
        intro he
        have := congrArg List.length he
        simp at this
        omega
      try simp (maxDischargeDepth := 8) [↓bindV_some, ↓bindU_some, ↓condE_true, ↓condE_false, ↓pickE_true, ↓pickE_false, ↓pickE_or, ↓pickE_and, ↓grdE_true, ↓grdE_false, ↓grdE_tf, ↓grdE_ft, ↓grdE_undef, ↓nilE_pt, ↓thenK_normal, ↓thenK_exit, ↓thenK_ret, ↓thenK_goto, ↓thenK_panic, ↓blockK_exit, ↓blockK_normal, ↓blockK_ret, ↓blockK_goto, ↓blockK_panic, ↓loopK_normal, ↓loopK_exit, ↓loopK_ret, ↓loopK_goto, ↓loopK_panic, ↓topK_ret, ↓topK_normal, ↓topK_panic, ↓resVs_nil, ↓resVs_tmp, ↓resVs_cell, tup_one, tup_nil, tup_two, put_get, argE_get, ↓takeE_def, ↓heldE_nil, ↓heldE_cons, qNil_pt, qPick_bool, qGrd_bool, qGrd_undef, ↓letK_def, pBox_eq, pBin_add, pBin_sub, pBin_mul, pBin_eql, pBin_neq, pBin_lss, pBin_leq, pBin_gtr, pBin_geq, pUn_not, pUn_neg, eqB, neB, eqS, neS, pExtract0, pExtract1, pExtract2, max_int, min_int, sz_nw, sz_wr, sz_drew, mm_nw, fz_nw, mm_drew, fz_drew, fz_wr, sz_mkS, mm_mkS, fz_mkS, Fr.mkS, mm_wr_same, mm_wr_ne, wr_wr, bs_oneT, splice_full, gt_zero, gt_succ, gt_set, gt_bs, byte_eq0, byte_eq1, byte_n0, byte_n1, Fr.refl, Fr.nw, Fr.wr, Fr.drew, e0, e1, e6, e7, e8, hji, hjl', hlu, c1, c2]
      exact ⟨by simpa using hLM, hf1⟩
  · have hji : ((j : Int) < L.length) = False := eq_false (by omega)
    have hjl' : (j < L.length) = False := eq_false hjl
    have hje : j = L.length := by omega
    have hiff : decide (L.length = M.length) = decide (L.map (·.1) = M.map (·.1)) := by
      rw [Bool.eq_iff_iff]
      simp only [decide_eq_true_eq]
      rw [List.take_of_length_le (by simp; omega)] at heq
      constructor
      · intro hlen
        rw [heq, List.take_of_length_le (by simp; omega)]
      · intro he
        have := congrArg List.length he
        simpa using this
    have hle : ∀ w, pBin P .eql 3 false (i64 L.length) (i64 M.length) w = some (.bool (decide (L.length = M.length)), w) := fun w => by
      try simp (maxDischargeDepth := 8) [↓bindV_some, ↓bindU_some, ↓condE_true, ↓condE_false, ↓pickE_true, ↓pickE_false, ↓pickE_or, ↓pickE_and, ↓grdE_true, ↓grdE_false, ↓grdE_tf, ↓grdE_ft, ↓grdE_undef, ↓nilE_pt, ↓thenK_normal, ↓thenK_exit, ↓thenK_ret, ↓thenK_goto, ↓thenK_panic, ↓blockK_exit, ↓blockK_normal, ↓blockK_ret, ↓blockK_goto, ↓blockK_panic, ↓loopK_normal, ↓loopK_exit, ↓loopK_ret, ↓loopK_goto, ↓loopK_panic, ↓topK_ret, ↓topK_normal, ↓topK_panic, ↓resVs_nil, ↓resVs_tmp, ↓resVs_cell, tup_one, tup_nil, tup_two, put_get, argE_get, ↓takeE_def, ↓heldE_nil, ↓heldE_cons, qNil_pt, qPick_bool, qGrd_bool, qGrd_undef, ↓letK_def, pBox_eq, pBin_add, pBin_sub, pBin_mul, pBin_eql, pBin_neq, pBin_lss, pBin_leq, pBin_gtr, pBin_geq, pUn_not, pUn_neg, eqB, neB, eqS, neS, pExtract0, pExtract1, pExtract2, max_int, min_int, sz_nw, sz_wr, sz_drew, mm_nw, fz_nw, mm_drew, fz_drew, fz_wr, sz_mkS, mm_mkS, fz_mkS, Fr.mkS, mm_wr_same, mm_wr_ne, wr_wr, bs_oneT, splice_full, gt_zero, gt_succ, gt_set, gt_bs, byte_eq0, byte_eq1, byte_n0, byte_n1, Fr.refl, Fr.nw, Fr.wr, Fr.drew]
      omega
    rw [hiff] at hle
    try simp (maxDischargeDepth := 8) [↓bindV_some, ↓bindU_some, ↓condE_true, ↓condE_false, ↓pickE_true, ↓pickE_false, ↓pickE_or, ↓pickE_and, ↓grdE_true, ↓grdE_false, ↓grdE_tf, ↓grdE_ft, ↓grdE_undef, ↓nilE_pt, ↓thenK_normal, ↓thenK_exit, ↓thenK_ret, ↓thenK_goto, ↓thenK_panic, ↓blockK_exit, ↓blockK_normal, ↓blockK_ret, ↓blockK_goto, ↓blockK_panic, ↓loopK_normal, ↓loopK_exit, ↓loopK_ret, ↓loopK_goto, ↓loopK_panic, ↓topK_ret, ↓topK_normal, ↓topK_panic, ↓resVs_nil, ↓resVs_tmp, ↓resVs_cell, tup_one, tup_nil, tup_two, put_get, argE_get, ↓takeE_def, ↓heldE_nil, ↓heldE_cons, qNil_pt, qPick_bool, qGrd_bool, qGrd_undef, ↓letK_def, pBox_eq, pBin_add, pBin_sub, pBin_mul, pBin_eql, pBin_neq, pBin_lss, pBin_leq, pBin_gtr, pBin_geq, pUn_not, pUn_neg, eqB, neB, eqS, neS, pExtract0, pExtract1, pExtract2, max_int, min_int, sz_nw, sz_wr, sz_drew, mm_nw, fz_nw, mm_drew, fz_drew, fz_wr, sz_mkS, mm_mkS, fz_mkS, Fr.mkS, mm_wr_same, mm_wr_ne, wr_wr, bs_oneT, splice_full, gt_zero, gt_succ, gt_set, gt_bs, byte_eq0, byte_eq1, byte_n0, byte_n1, Fr.refl, Fr.nw, Fr.wr, Fr.drew, e0, e1, e7, e8, hji, hjl', hlv, hlu, hle]
    exact hf
def bigM (Lp : List (List UInt8 × Value)) : Prop := Lp.length ≤ 20 ∧ ∀ p ∈ Lp, p.1.length ≤ 5000
def B54I (w : World) (v : Value) (L : List (List UInt8 × Value)) (m : Nat) (e : Env) (w' : World) : Prop :=
  ∃ j : Nat, m = L.length - j ∧ j ≤ L.length ∧ Fr [] w w' ∧ (∀ p ∈ L.take j, p.1.length ≤ 5000) ∧ e 8 = v ∧ e 9 = i64 L.length ∧ e 10 = i64 j
theorem big19_spec {w : World} {v : Value} {L : List (List UInt8 × Value)} (h : IsE w v L) :
    Ret P 54 #[v] w fun x w' => (∃ b, x = .bool b ∧ (b = false → bigM L)) ∧ Fr [] w w' := by
  refine F54ok ?_
  unfold F54
  obtain ⟨va, vc, hv⟩ := sl_of h.row
  have hlv : ∀ w, pBuiltin P .len #[67] 3 [v] w = some (i64 L.length, w) := fun w => by rw [hv]; exact len67
  by_cases hb : 20 < L.length
  · have c1 : ((20 : Int) < L.length) = True := eq_true (by omega)
    have c2 : (20 < L.length) = True := eq_true hb
    try simp (maxDischargeDepth := 8) [↓bindV_some, ↓bindU_some, ↓condE_true, ↓condE_false, ↓pickE_true, ↓pickE_false, ↓pickE_or, ↓pickE_and, ↓grdE_true, ↓grdE_false, ↓grdE_tf, ↓grdE_ft, ↓grdE_undef, ↓nilE_pt, ↓thenK_normal, ↓thenK_exit, ↓thenK_ret, ↓thenK_goto, ↓thenK_panic, ↓blockK_exit, ↓blockK_normal, ↓blockK_ret, ↓blockK_goto, ↓blockK_panic, ↓loopK_normal, ↓loopK_exit, ↓loopK_ret, ↓loopK_goto, ↓loopK_panic, ↓topK_ret, ↓topK_normal, ↓topK_panic, ↓resVs_nil, ↓resVs_tmp, ↓resVs_cell, tup_one, tup_nil, tup_two, put_get, argE_get, ↓takeE_def, ↓heldE_nil, ↓heldE_cons, qNil_pt, qPick_bool, qGrd_bool, qGrd_undef, ↓letK_def, pBox_eq, pBin_add, pBin_sub, pBin_mul, pBin_eql, pBin_neq, pBin_lss, pBin_leq, pBin_gtr, pBin_geq, pUn_not, pUn_neg, eqB, neB, eqS, neS, pExtract0, pExtract1, pExtract2, max_int, min_int, sz_nw, sz_wr, sz_drew, mm_nw, fz_nw, mm_drew, fz_drew, fz_wr, sz_mkS, mm_mkS, fz_mkS, Fr.mkS, mm_wr_same, mm_wr_ne, wr_wr, bs_oneT, splice_full, gt_zero, gt_succ, gt_set, gt_bs, byte_eq0, byte_eq1, byte_n0, byte_n1, Fr.refl, Fr.nw, Fr.wr, Fr.drew, hlv, c1, c2]
    done
  · have c1 : ((20 : Int) < L.length) = False := eq_false (by omega)
    have c2 : (20 < L.length) = False := eq_false hb
    try simp (maxDischargeDepth := 8) [↓bindV_some, ↓bindU_some, ↓condE_true, ↓condE_false, ↓pickE_true, ↓pickE_false, ↓pickE_or, ↓pickE_and, ↓grdE_true, ↓grdE_false, ↓grdE_tf, ↓grdE_ft, ↓grdE_undef, ↓nilE_pt, ↓thenK_normal, ↓thenK_exit, ↓thenK_ret, ↓thenK_goto, ↓thenK_panic, ↓blockK_exit, ↓blockK_normal, ↓blockK_ret, ↓blockK_goto, ↓blockK_panic, ↓loopK_normal, ↓loopK_exit, ↓loopK_ret, ↓loopK_goto, ↓loopK_panic, ↓topK_ret, ↓topK_normal, ↓topK_panic, ↓resVs_nil, ↓resVs_tmp, ↓resVs_cell, tup_one, tup_nil, tup_two, put_get, argE_get, ↓takeE_def, ↓heldE_nil, ↓heldE_cons, qNil_pt, qPick_bool, qGrd_bool, qGrd_undef, ↓letK_def, pBox_eq, pBin_add, pBin_sub, pBin_mul, pBin_eql, pBin_neq, pBin_lss, pBin_leq, pBin_gtr, pBin_geq, pUn_not, pUn_neg, eqB, neB, eqS, neS, pExtract0, pExtract1, pExtract2, max_int, min_int, sz_nw, sz_wr, sz_drew, mm_nw, fz_nw, mm_drew, fz_drew, fz_wr, sz_mkS, mm_mkS, fz_mkS, Fr.mkS, mm_wr_same, mm_wr_ne, wr_wr, bs_oneT, splice_full, gt_zero, gt_succ, gt_set, gt_bs, byte_eq0, byte_eq1, byte_n0, byte_n1, Fr.refl, Fr.nw, Fr.wr, Fr.drew, hlv, c1, c2]
    refine loopE_of (B54I w v L) L.length ⟨0, by omega, by omega, Fr.refl _ _, by simp, by simp [put_get, argE_get], by simp [put_get], by simp [put_get]⟩ ?_
    rintro m e w1 ⟨j, hm, hj, hf, hall, e8, e9, e10⟩
    subst hm
    unfold F54B0
    by_cases hjl : j < L.length
    · have hji : ((j : Int) < L.length) = True := eq_true (by omega)
      have hjl' : (j < L.length) = True := eq_true hjl
      obtain ⟨p, hp⟩ : ∃ p, L[j]? = some p := ⟨_, List.getElem?_eq_getElem hjl⟩
      obtain ⟨pb, po, pc, hv2, hin, hgp⟩ := (h.fr0 hf).at hp
      have hwj : IntKind.i64.wrap ((j : Int) + 1) = ((j + 1 : Nat) : Int) := wrap64 (by omega) (by omega)
      have hia : ∀ w', pIndexAddr P 67 v (i64 j) w' = some (pt pb (po + j), w') := fun w' => by
        rw [hv2]
        have := ia67 (w := w') (b := pb) (o := po) (n := L.length) (c := pc) (k := .i64) (j := (j : Int)) (by omega) (by omega)
        rw [this]; simp
      have hlp : pLoad P 22 (pt pb (po + j)) w1 = some (p.2, w1) := by rw [ld22 hin, hgp]
      obtain ⟨pa, pcc, hpv⟩ := sl_of (h.el p (List.mem_of_getElem? hp))
      have hlpp : ∀ w, pBuiltin P .len #[22] 3 [p.2] w = some (i64 p.1.length, w) := fun w => by rw [hpv]; exact len22
      by_cases hlong : 5000 < p.1.length
      · have d1 : ((5000 : Int) < p.1.length) = True := eq_true (by omega)
        have d2 : (5000 < p.1.length) = True := eq_true hlong
        try simp (maxDischargeDepth := 8) [↓bindV_some, ↓bindU_some, ↓condE_true, ↓condE_false, ↓pickE_true, ↓pickE_false, ↓pickE_or, ↓pickE_and, ↓grdE_true, ↓grdE_false, ↓grdE_tf, ↓grdE_ft, ↓grdE_undef, ↓nilE_pt, ↓thenK_normal, ↓thenK_exit, ↓thenK_ret, ↓thenK_goto, ↓thenK_panic, ↓blockK_exit, ↓blockK_normal, ↓blockK_ret, ↓blockK_goto, ↓blockK_panic, ↓loopK_normal, ↓loopK_exit, ↓loopK_ret, ↓loopK_goto, ↓loopK_panic, ↓topK_ret, ↓topK_normal, ↓topK_panic, ↓resVs_nil, ↓resVs_tmp, ↓resVs_cell, tup_one, tup_nil, tup_two, put_get, argE_get, ↓takeE_def, ↓heldE_nil, ↓heldE_cons, qNil_pt, qPick_bool, qGrd_bool, qGrd_undef, ↓letK_def, pBox_eq, pBin_add, pBin_sub, pBin_mul, pBin_eql, pBin_neq, pBin_lss, pBin_leq, pBin_gtr, pBin_geq, pUn_not, pUn_neg, eqB, neB, eqS, neS, pExtract0, pExtract1, pExtract2, max_int, min_int, sz_nw, sz_wr, sz_drew, mm_nw, fz_nw, mm_drew, fz_drew, fz_wr, sz_mkS, mm_mkS, fz_mkS, Fr.mkS, mm_wr_same, mm_wr_ne, wr_wr, bs_oneT, splice_full, gt_zero, gt_succ, gt_set, gt_bs, byte_eq0, byte_eq1, byte_n0, byte_n1, Fr.refl, Fr.nw, Fr.wr, Fr.drew, e8, e9, e10, hji, hjl', hia, hlp, hlpp, d1, d2, -ld22]
        exact hf
      · have d1 : ((5000 : Int) < p.1.length) = False := eq_false (by omega)
        have d2 : (5000 < p.1.length) = False := eq_false hlong
        try simp (maxDischargeDepth := 8) [↓bindV_some, ↓bindU_some, ↓condE_true, ↓condE_false, ↓pickE_true, ↓pickE_false, ↓pickE_or, ↓pickE_and, ↓grdE_true, ↓grdE_false, ↓grdE_tf, ↓grdE_ft, ↓grdE_undef, ↓nilE_pt, ↓thenK_normal, ↓thenK_exit, ↓thenK_ret, ↓thenK_goto, ↓thenK_panic, ↓blockK_exit, ↓blockK_normal, ↓blockK_ret, ↓blockK_goto, ↓blockK_panic, ↓loopK_normal, ↓loopK_exit, ↓loopK_ret, ↓loopK_goto, ↓loopK_panic, ↓topK_ret, ↓topK_normal, ↓topK_panic, ↓resVs_nil, ↓resVs_tmp, ↓resVs_cell, tup_one, tup_nil, tup_two, put_get, argE_get, ↓takeE_def, ↓heldE_nil, ↓heldE_cons, qNil_pt, qPick_bool, qGrd_bool, qGrd_undef, ↓letK_def, pBox_eq, pBin_add, pBin_sub, pBin_mul, pBin_eql, pBin_neq, pBin_lss, pBin_leq, pBin_gtr, pBin_geq, pUn_not, pUn_neg, eqB, neB, eqS, neS, pExtract0, pExtract1, pExtract2, max_int, min_int, sz_nw, sz_wr, sz_drew, mm_nw, fz_nw, mm_drew, fz_drew, fz_wr, sz_mkS, mm_mkS, fz_mkS, Fr.mkS, mm_wr_same, mm_wr_ne, wr_wr, bs_oneT, splice_full, gt_zero, gt_succ, gt_set, gt_bs, byte_eq0, byte_eq1, byte_n0, byte_n1, Fr.refl, Fr.nw, Fr.wr, Fr.drew, e8, e9, e10, hji, hjl', hia, hlp, hlpp, d1, d2, hwj, -ld22, -Int.natCast_add]
        refine ⟨L.length - (j + 1), by omega, j + 1, rfl, by omega, hf, ?_, by simp [put_get, e8], by simp [put_get, e9], by simp [put_get]⟩
        intro q hq
        rw [List.take_add_one, hp] at hq
        rcases List.mem_append.1 hq with hq | hq
        · exact hall q hq
        · simp only [Option.toList_some, List.mem_singleton] at hq
          subst hq; omega
    · have hji : ((j : Int) < L.length) = False := eq_false (by omega)
      have hjl' : (j < L.length) = False := eq_false hjl
      try simp (maxDischargeDepth := 8) [↓bindV_some, ↓bindU_some, ↓condE_true, ↓condE_false, ↓pickE_true, ↓pickE_false, ↓pickE_or, ↓pickE_and, ↓grdE_true, ↓grdE_false, ↓grdE_tf, ↓grdE_ft, ↓grdE_undef, ↓nilE_pt, ↓thenK_normal, ↓thenK_exit, ↓thenK_ret, ↓thenK_goto, ↓thenK_panic, ↓blockK_exit, ↓blockK_normal, ↓blockK_ret, ↓blockK_goto, ↓blockK_panic, ↓loopK_normal, ↓loopK_exit, ↓loopK_ret, ↓loopK_goto, ↓loopK_panic, ↓topK_ret, ↓topK_normal, ↓topK_panic, ↓resVs_nil, ↓resVs_tmp, ↓resVs_cell, tup_one, tup_nil, tup_two, put_get, argE_get, ↓takeE_def, ↓heldE_nil, ↓heldE_cons, qNil_pt, qPick_bool, qGrd_bool, qGrd_undef, ↓letK_def, pBox_eq, pBin_add, pBin_sub, pBin_mul, pBin_eql, pBin_neq, pBin_lss, pBin_leq, pBin_gtr, pBin_geq, pUn_not, pUn_neg, eqB, neB, eqS, neS, pExtract0, pExtract1, pExtract2, max_int, min_int, sz_nw, sz_wr, sz_drew, mm_nw, fz_nw, mm_drew, fz_drew, fz_wr, sz_mkS, mm_mkS, fz_mkS, Fr.mkS, mm_wr_same, mm_wr_ne, wr_wr, bs_oneT, splice_full, gt_zero, gt_succ, gt_set, gt_bs, byte_eq0, byte_eq1, byte_n0, byte_n1, Fr.refl, Fr.nw, Fr.wr, Fr.drew, e8, e9, e10, hji, hjl']
      rw [List.take_of_length_le (by omega)] at hall
      exact ⟨⟨by omega, hall⟩, hf⟩
end Go.Proofs.Yticncfkpfpkfoaa
