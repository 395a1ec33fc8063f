/- PackWrites: the law. -/
import Derived.Test.YtfmcplkijjndlaaPBack
import Derived.Test.YtfmcplkijjndlaaWPackWrites
set_option linter.unusedVariables false
set_option linter.unusedSimpArgs false
namespace Go.Proofs.Ytfmcplkijjndlaa
open Go

theorem own_room {w : World} {base e : Nat} {v : Value} {n : Nat} {xs : List Value} (h : w.ownsRow base e 1 v n xs) (hn : 0 < n) :
    ∃ zb c, v = sl zb 0 n c ∧ base ≤ zb ∧ zb < sz w ∧ fz w zb = false ∧ n ≤ (mm w zb).length ∧ n ≤ c := by
  have hlt := h.lt
  obtain ⟨hl, h | ⟨g, cap, cur, hv, hb, hg, hnc2, hcm, hcs, ht⟩⟩ := h
  · omega
  · subst hv
    have hm : mm w g = cur.toList := by unfold mm; rw [hg]
    refine ⟨g, cap, rfl, hb, (hlt g rfl).2, by unfold fz; rw [hg]; simp, ?_, hnc2⟩
    rw [hm, Array.length_toList, hcs]
    omega
theorem bs_part {p : PartP} {w : World} : pBuildSlice P 37 1 [(0, .agg (partC p).toArray)] w = some (sl (sz w) 0 1 1, nw w (flat partC [p]) 60) := by
  rw [bsl37 (by omega) (by simp [partC])]
  congr 3
def PwI (w0 : World) (v : Value) (L : List PartP) (m : Nat) (e : Env) (w' : World) : Prop :=
  ∃ (j : Nat) (F : List Nat) (ov : Value), m = L.length - j ∧ j ≤ L.length ∧ IsW w' (sz w0) (encAll (L.take j)) F ∧ Own w0 w' F ∧
    w'.ownsRow (sz w0) 5 1 ov (encAll (L.take j)).length (bs (encAll (L.take j))) ∧ (∀ c, ov.ownBlock = some c → c ∉ F) ∧
    e 5 = pt (sz w0) 0 ∧ e 6 = ov ∧ e 21 = v ∧ e 22 = i64 L.length ∧ e 23 = i64 j
def PwM (w0 : World) (v : Value) (n : Nat) (B C : List UInt8) (p : PartP) (ov : Value) (pb j : Nat) (e : Env) (w' : World) : Prop :=
  ∃ F, IsW w' (sz w0) C F ∧ Own w0 w' F ∧ w'.ownsRow (sz w0) 5 1 ov B.length (bs B) ∧ (∀ c, ov.ownBlock = some c → c ∉ F) ∧ mm w' pb = partC p ∧
    e 5 = pt (sz w0) 0 ∧ e 6 = ov ∧ e 8 = pt pb 0 ∧ e 21 = v ∧ e 22 = i64 n ∧ e 23 = i64 j
def PzI (w6 : World) (z v' v : Value) (wb zb c n nl j : Nat) (m : Nat) (e : Env) (w' : World) : Prop :=
  ∃ i : Nat, m = n - i ∧ i ≤ n ∧ Fr [zb] w6 w' ∧ (0 < n → z = sl zb 0 n c ∧ n ≤ c ∧ fz w' zb = false ∧ n ≤ (mm w' zb).length) ∧
    e 5 = pt wb 0 ∧ e 6 = v' ∧ e 9 = z ∧ e 21 = v ∧ e 22 = i64 nl ∧ e 23 = i64 j ∧ e 73 = i64 n ∧ e 74 = i64 i

theorem packWrites_law {w : World} {v : Value} {L : List PartP} (h : IsParts w v L) :
    Ret P 15 #[v] w fun x w' => x = .bool true ∧ Fr [] w w' := by
  refine F15ok ?_
  unfold F15
  refine speaks02.call ?_
  rintro _ w1 ⟨rfl, f1⟩
  try simp (maxDischargeDepth := 8) [↓bindV_some, ↓bindU_some, ↓condE_true, ↓condE_false, ↓pickE_true, ↓pickE_false, ↓pickE_or, ↓pickE_and, ↓grdE_true, ↓grdE_false, ↓grdE_tf, ↓grdE_ft, ↓grdE_undef, ↓nilE_pt, ↓thenK_normal, ↓thenK_exit, ↓thenK_ret, ↓thenK_goto, ↓thenK_panic, ↓blockK_exit, ↓blockK_normal, ↓blockK_ret, ↓blockK_goto, ↓blockK_panic, ↓loopK_normal, ↓loopK_exit, ↓loopK_ret, ↓loopK_goto, ↓loopK_panic, ↓topK_ret, ↓topK_normal, ↓topK_panic, ↓resVs_nil, ↓resVs_tmp, ↓resVs_cell, tup_one, tup_nil, tup_two, put_get, argE_get, ↓takeE_def, ↓heldE_nil, ↓heldE_cons, qNil_pt, qPick_bool, qGrd_bool, qGrd_undef, ↓letK_def, pBox_eq, pBin_add, pBin_sub, pBin_mul, pBin_eql, pBin_neq, pBin_lss, pBin_leq, pBin_gtr, pBin_geq, pUn_not, pUn_neg, eqB, neB, eqS, neS, pExtract0, pExtract1, pExtract2, max_int, min_int, sz_nw, sz_wr, sz_drew, mm_nw, fz_nw, mm_drew, fz_drew, fz_wr, sz_mkS, mm_mkS, fz_mkS, Fr.mkS, mm_wr_same, mm_wr_ne, wr_wr, bs_oneT, splice_full, gt_zero, gt_succ, gt_set, gt_bs, byte_eq0, byte_eq1, byte_n0, byte_n1, Fr.refl, Fr.nw, Fr.wr, Fr.drew]
  refine (kinds_spec (h.fr0 f1)).call ?_
  rintro _ w2 ⟨K, b, rfl, hK, f2⟩
  have g2 := f1.trans0 f2
  cases b with
  | false =>
    try simp (maxDischargeDepth := 8) [↓bindV_some, ↓bindU_some, ↓condE_true, ↓condE_false, ↓pickE_true, ↓pickE_false, ↓pickE_or, ↓pickE_and, ↓grdE_true, ↓grdE_false, ↓grdE_tf, ↓grdE_ft, ↓grdE_undef, ↓nilE_pt, ↓thenK_normal, ↓thenK_exit, ↓thenK_ret, ↓thenK_goto, ↓thenK_panic, ↓blockK_exit, ↓blockK_normal, ↓blockK_ret, ↓blockK_goto, ↓blockK_panic, ↓loopK_normal, ↓loopK_exit, ↓loopK_ret, ↓loopK_goto, ↓loopK_panic, ↓topK_ret, ↓topK_normal, ↓topK_panic, ↓resVs_nil, ↓resVs_tmp, ↓resVs_cell, tup_one, tup_nil, tup_two, put_get, argE_get, ↓takeE_def, ↓heldE_nil, ↓heldE_cons, qNil_pt, qPick_bool, qGrd_bool, qGrd_undef, ↓letK_def, pBox_eq, pBin_add, pBin_sub, pBin_mul, pBin_eql, pBin_neq, pBin_lss, pBin_leq, pBin_gtr, pBin_geq, pUn_not, pUn_neg, eqB, neB, eqS, neS, pExtract0, pExtract1, pExtract2, max_int, min_int, sz_nw, sz_wr, sz_drew, mm_nw, fz_nw, mm_drew, fz_drew, fz_wr, sz_mkS, mm_mkS, fz_mkS, Fr.mkS, mm_wr_same, mm_wr_ne, wr_wr, bs_oneT, splice_full, gt_zero, gt_succ, gt_set, gt_bs, byte_eq0, byte_eq1, byte_n0, byte_n1, Fr.refl, Fr.nw, Fr.wr, Fr.drew]
    exact g2
  | true =>
    obtain ⟨rfl, hgood⟩ := hK rfl
    have hl := good_len hgood h.2
    have hL := hgood.1
    obtain ⟨va, vc, hv⟩ := sl_of h.1
    have hlv : ∀ w, pBuiltin P .len #[37] 3 [v] w = some (i64 L.length, w) := fun w => by rw [hv]; exact len37
    have b0 : ∀ w, pBuildSlice P 40 0 [] w = some (sl (sz w) 0 0 0, nw w [] 5) := fun w => by rw [bsl40 (by omega) (by simp)]; simp
    try simp (maxDischargeDepth := 8) [↓bindV_some, ↓bindU_some, ↓condE_true, ↓condE_false, ↓pickE_true, ↓pickE_false, ↓pickE_or, ↓pickE_and, ↓grdE_true, ↓grdE_false, ↓grdE_tf, ↓grdE_ft, ↓grdE_undef, ↓nilE_pt, ↓thenK_normal, ↓thenK_exit, ↓thenK_ret, ↓thenK_goto, ↓thenK_panic, ↓blockK_exit, ↓blockK_normal, ↓blockK_ret, ↓blockK_goto, ↓blockK_panic, ↓loopK_normal, ↓loopK_exit, ↓loopK_ret, ↓loopK_goto, ↓loopK_panic, ↓topK_ret, ↓topK_normal, ↓topK_panic, ↓resVs_nil, ↓resVs_tmp, ↓resVs_cell, tup_one, tup_nil, tup_two, put_get, argE_get, ↓takeE_def, ↓heldE_nil, ↓heldE_cons, qNil_pt, qPick_bool, qGrd_bool, qGrd_undef, ↓letK_def, pBox_eq, pBin_add, pBin_sub, pBin_mul, pBin_eql, pBin_neq, pBin_lss, pBin_leq, pBin_gtr, pBin_geq, pUn_not, pUn_neg, eqB, neB, eqS, neS, pExtract0, pExtract1, pExtract2, max_int, min_int, sz_nw, sz_wr, sz_drew, mm_nw, fz_nw, mm_drew, fz_drew, fz_wr, sz_mkS, mm_mkS, fz_mkS, Fr.mkS, mm_wr_same, mm_wr_ne, wr_wr, bs_oneT, splice_full, gt_zero, gt_succ, gt_set, gt_bs, byte_eq0, byte_eq1, byte_n0, byte_n1, Fr.refl, Fr.nw, Fr.wr, Fr.drew, hlv, b0]
    have fW : Fr [] w2 (nw (nw w2 [.slice none 0 0] 58) [] 5) := ((Fr.refl [] w2).nw _ _).nw _ _
    have hW0 := (wF0 (w := w2)).fr0 ((Fr.refl [] (nw w2 [.slice none 0 0] 58)).nw [] 5)
    have hO0 : Own w2 (nw (nw w2 [.slice none 0 0] 58) [] 5) [sz w2] := ⟨fW, by simp⟩
    refine loopE_of (PwI w2 v L) L.length ⟨0, [sz w2], sl (sz w2 + 1) 0 0 0, by omega, by omega, by rw [List.take_zero]; exact hW0, hO0, ?_, ?_, by simp [put_get], by simp [put_get], by simp [put_get, argE_get], by simp [put_get], by simp [put_get]⟩ ?_
    · have := own_nw (w := nw w2 [.slice none 0 0] 58) (base := sz w2) (e := 5) (size := 1) (l := []) (n := 0) (by simp [sz_nw, sz_wr, sz_drew, mm_nw, fz_nw, mm_drew, fz_drew, fz_wr, sz_mkS, mm_mkS, fz_mkS, Fr.mkS, mm_wr_same, mm_wr_ne, wr_wr, bs_oneT, splice_full, gt_zero, gt_succ, gt_set, gt_bs, byte_eq0, byte_eq1, byte_n0, byte_n1, Fr.refl, Fr.nw, Fr.wr, Fr.drew]) rfl (by unfold maxLen; omega)
      rw [sz_nw] at this
      exact this
    · intro c hc
      have : c = sz w2 + 1 := by simpa [Value.ownBlock] using hc.symm
      simp; omega
    rintro m e w3 ⟨j, F, ov, hm, hj, hw, hO, hown, hne, e5, e6, e21, e22, e23⟩
    subst hm
    unfold F15B0
    by_cases hjl : j < L.length
    · have hji : ((j : Int) < L.length) = True := eq_true (by omega)
      have hjl' : (j < L.length) = True := eq_true hjl
      obtain ⟨p, hp⟩ : ∃ p, L[j]? = some p := ⟨_, List.getElem?_eq_getElem hjl⟩
      have hpm := List.mem_of_getElem? hp
      have h1 := h.fr0 (g2.trans0 hO.fr)
      obtain ⟨hu, hi, hf⟩ := h.2 p hpm
      have hps := (hgood.2 p hpm).2
      have hpk := (hgood.2 p hpm).1
      obtain ⟨pb, po, pc, hv2, hpb, hin, htk⟩ := flat_at h1.1 (partC_len L) (by omega) hp
      have hia : ∀ w', pIndexAddr P 37 v (i64 j) w' = some (pt pb (po + j * 6), w') := fun w' => by
        rw [hv2]
        have := ia37 (w := w') (b := pb) (o := po) (n := L.length) (c := pc) (k := .i64) (j := (j : Int)) (by omega) (by omega)
        rw [this]; simp
      have hlen := encAll_take_le L (j + 1)
      have hnext := encAll_take hp
      rw [hnext, List.length_append] at hlen
      have hwj : IntKind.i64.wrap ((j : Int) + 1) = ((j + 1 : Nat) : Int) := wrap64 (by omega) (by omega)
      have hs6 : ∀ l : List Value, l.length = 6 → splice l 0 (partC p) = partC p := fun l hl => splice_full (by rw [hl]; rfl)
      have hone := partC_oneT p
      have hol : (partC p).length = 6 := rfl
      have h8 : ∀ k, (placeB k).length = 8 := fun _ => rfl
      have g0 : gt (partC p) 0 = bv p.kind := rfl
      have g1 : gt (partC p) 1 = u64 p.u := rfl
      have q2 : gt (partC p) 2 = i64 p.i := rfl
      have g3 : gt (partC p) 3 = fl p.f := rfl
      have g4 : gt (partC p) 4 = strB p.s := rfl
      have g5 : gt (partC p) 5 = .bool p.b := rfl
      obtain ⟨z, hz⟩ : ∃ z : List Value, z = [Value.int IntKind.u8 0, Value.int IntKind.u64 0, Value.int IntKind.i64 0, Value.float FloatKind.f64 0, Value.string ByteArray.empty, Value.bool false] := ⟨_, rfl⟩
      obtain ⟨X, hX⟩ : ∃ X, X = wr (nw w3 z 60) (sz w3) (partC p) := ⟨_, rfl⟩
      have hfX : Fr [] w3 X := by rw [hX]; exact ((Fr.refl [] w3).nw _ _).wr (.inr (Nat.le_refl _)) _
      have hXm : mm X (sz w3) = partC p := by rw [hX, mm_wr_same]; simp [sz_nw, sz_wr, sz_drew, mm_nw, fz_nw, mm_drew, fz_drew, fz_wr, sz_mkS, mm_mkS, fz_mkS, Fr.mkS, mm_wr_same, mm_wr_ne, wr_wr, bs_oneT, splice_full, gt_zero, gt_succ, gt_set, gt_bs, byte_eq0, byte_eq1, byte_n0, byte_n1, Fr.refl, Fr.nw, Fr.wr, Fr.drew]
      have hXl : 6 ≤ (mm X (sz w3)).length := by rw [hXm, hol]; omega
      have hXs : sz X = sz w3 + 1 := by rw [hX]; simp [sz_nw, sz_wr, sz_drew, mm_nw, fz_nw, mm_drew, fz_drew, fz_wr, sz_mkS, mm_mkS, fz_mkS, Fr.mkS, mm_wr_same, mm_wr_ne, wr_wr, bs_oneT, splice_full, gt_zero, gt_succ, gt_set, gt_bs, byte_eq0, byte_eq1, byte_n0, byte_n1, Fr.refl, Fr.nw, Fr.wr, Fr.drew]
      have hwX := hw.fr0 hfX
      have hOX := hO.calm hfX
      have hownX := own_fr hown hfX (by simp)
      have hFlt : ∀ k ∈ F, k < sz w3 := by obtain ⟨_, _, _, _, _, _, h6⟩ := id hw; exact h6
      rw [hz] at hX
      try simp (maxDischargeDepth := 8) [↓bindV_some, ↓bindU_some, ↓condE_true, ↓condE_false, ↓pickE_true, ↓pickE_false, ↓pickE_or, ↓pickE_and, ↓grdE_true, ↓grdE_false, ↓grdE_tf, ↓grdE_ft, ↓grdE_undef, ↓nilE_pt, ↓thenK_normal, ↓thenK_exit, ↓thenK_ret, ↓thenK_goto, ↓thenK_panic, ↓blockK_exit, ↓blockK_normal, ↓blockK_ret, ↓blockK_goto, ↓blockK_panic, ↓loopK_normal, ↓loopK_exit, ↓loopK_ret, ↓loopK_goto, ↓loopK_panic, ↓topK_ret, ↓topK_normal, ↓topK_panic, ↓resVs_nil, ↓resVs_tmp, ↓resVs_cell, tup_one, tup_nil, tup_two, put_get, argE_get, ↓takeE_def, ↓heldE_nil, ↓heldE_cons, qNil_pt, qPick_bool, qGrd_bool, qGrd_undef, ↓letK_def, pBox_eq, pBin_add, pBin_sub, pBin_mul, pBin_eql, pBin_neq, pBin_lss, pBin_leq, pBin_gtr, pBin_geq, pUn_not, pUn_neg, eqB, neB, eqS, neS, pExtract0, pExtract1, pExtract2, max_int, min_int, sz_nw, sz_wr, sz_drew, mm_nw, fz_nw, mm_drew, fz_drew, fz_wr, sz_mkS, mm_mkS, fz_mkS, Fr.mkS, mm_wr_same, mm_wr_ne, wr_wr, bs_oneT, splice_full, gt_zero, gt_succ, gt_set, gt_bs, byte_eq0, byte_eq1, byte_n0, byte_n1, Fr.refl, Fr.nw, Fr.wr, Fr.drew, letK_def, e21, e22, e23, hji, hjl', hia, hin, htk, hs6, hone, hol, ← hX, hXm, g0, ki117, kk117]
      have mid : ∀ (e' : Env) (w4 : World) (F2 : List Nat), More X (sz w2) (encAll (L.take j) ++ encP p) F w4 F2 → e' 5 = pt (sz w2) 0 → e' 6 = ov → e' 8 = pt (sz w3) 0 → e' 21 = v → e' 22 = i64 L.length → e' 23 = i64 j →
          PwM w2 v L.length (encAll (L.take j)) (encAll (L.take j) ++ encP p) p ov (sz w3) j e' w4 := fun e' w4 F2 hm a5 a6 a8 a21 a22 a23 => by
        have hnew : sz w3 ∉ F := fun hk => by have := hFlt _ hk; omega
        refine ⟨F2, hm.is, hOX.step hm.fr hm.new, own_fr hownX hm.fr hne, fun c hc hk => ?_, by rw [hm.fr.mm (by omega) hnew, hXm], a5, a6, a8, a21, a22, a23⟩
        rcases hm.new c hk with hk | hk
        · exact hne c hc hk
        · have := (own_lt hownX c hc).2; omega
      refine condE_join (M := PwM w2 v L.length (encAll (L.take j)) (encAll (L.take j) ++ encP p) p ov (sz w3) j) ?_ ?_ ?_
      · intro hk K' hK'
        have k1 : p.kind = 117 := by simpa using hk
        have henc : encP p = digits p.u := by unfold encP; rw [if_pos k1]
        try simp (maxDischargeDepth := 8) [↓bindV_some, ↓bindU_some, ↓condE_true, ↓condE_false, ↓pickE_true, ↓pickE_false, ↓pickE_or, ↓pickE_and, ↓grdE_true, ↓grdE_false, ↓grdE_tf, ↓grdE_ft, ↓grdE_undef, ↓nilE_pt, ↓thenK_normal, ↓thenK_exit, ↓thenK_ret, ↓thenK_goto, ↓thenK_panic, ↓blockK_exit, ↓blockK_normal, ↓blockK_ret, ↓blockK_goto, ↓blockK_panic, ↓loopK_normal, ↓loopK_exit, ↓loopK_ret, ↓loopK_goto, ↓loopK_panic, ↓topK_ret, ↓topK_normal, ↓topK_panic, ↓resVs_nil, ↓resVs_tmp, ↓resVs_cell, tup_one, tup_nil, tup_two, put_get, argE_get, ↓takeE_def, ↓heldE_nil, ↓heldE_cons, qNil_pt, qPick_bool, qGrd_bool, qGrd_undef, ↓letK_def, pBox_eq, pBin_add, pBin_sub, pBin_mul, pBin_eql, pBin_neq, pBin_lss, pBin_leq, pBin_gtr, pBin_geq, pUn_not, pUn_neg, eqB, neB, eqS, neS, pExtract0, pExtract1, pExtract2, max_int, min_int, sz_nw, sz_wr, sz_drew, mm_nw, fz_nw, mm_drew, fz_drew, fz_wr, sz_mkS, mm_mkS, fz_mkS, Fr.mkS, mm_wr_same, mm_wr_ne, wr_wr, bs_oneT, splice_full, gt_zero, gt_succ, gt_set, gt_bs, byte_eq0, byte_eq1, byte_n0, byte_n1, Fr.refl, Fr.nw, Fr.wr, Fr.drew, e5, hXm, hol, g1]
        refine (wU_spec hwX hu (by rw [henc] at hlen; omega)).call ?_
        rintro _ w4 ⟨rfl, F2, hm2⟩
        rw [← henc] at hm2
        try simp (maxDischargeDepth := 8) [↓bindV_some, ↓bindU_some, ↓condE_true, ↓condE_false, ↓pickE_true, ↓pickE_false, ↓pickE_or, ↓pickE_and, ↓grdE_true, ↓grdE_false, ↓grdE_tf, ↓grdE_ft, ↓grdE_undef, ↓nilE_pt, ↓thenK_normal, ↓thenK_exit, ↓thenK_ret, ↓thenK_goto, ↓thenK_panic, ↓blockK_exit, ↓blockK_normal, ↓blockK_ret, ↓blockK_goto, ↓blockK_panic, ↓loopK_normal, ↓loopK_exit, ↓loopK_ret, ↓loopK_goto, ↓loopK_panic, ↓topK_ret, ↓topK_normal, ↓topK_panic, ↓resVs_nil, ↓resVs_tmp, ↓resVs_cell, tup_one, tup_nil, tup_two, put_get, argE_get, ↓takeE_def, ↓heldE_nil, ↓heldE_cons, qNil_pt, qPick_bool, qGrd_bool, qGrd_undef, ↓letK_def, pBox_eq, pBin_add, pBin_sub, pBin_mul, pBin_eql, pBin_neq, pBin_lss, pBin_leq, pBin_gtr, pBin_geq, pUn_not, pUn_neg, eqB, neB, eqS, neS, pExtract0, pExtract1, pExtract2, max_int, min_int, sz_nw, sz_wr, sz_drew, mm_nw, fz_nw, mm_drew, fz_drew, fz_wr, sz_mkS, mm_mkS, fz_mkS, Fr.mkS, mm_wr_same, mm_wr_ne, wr_wr, bs_oneT, splice_full, gt_zero, gt_succ, gt_set, gt_bs, byte_eq0, byte_eq1, byte_n0, byte_n1, Fr.refl, Fr.nw, Fr.wr, Fr.drew, e5]
        exact hK' _ _ (mid _ _ F2 hm2 (by simp [put_get, e5]) (by simp [put_get, e6]) (by simp [put_get]) (by simp [put_get, e21]) (by simp [put_get, e22]) (by simp [put_get, e23]))
      · intro hk K' hK'
        have k1 : ¬ p.kind = 117 := by simpa using hk
        try simp (maxDischargeDepth := 8) [↓bindV_some, ↓bindU_some, ↓condE_true, ↓condE_false, ↓pickE_true, ↓pickE_false, ↓pickE_or, ↓pickE_and, ↓grdE_true, ↓grdE_false, ↓grdE_tf, ↓grdE_ft, ↓grdE_undef, ↓nilE_pt, ↓thenK_normal, ↓thenK_exit, ↓thenK_ret, ↓thenK_goto, ↓thenK_panic, ↓blockK_exit, ↓blockK_normal, ↓blockK_ret, ↓blockK_goto, ↓blockK_panic, ↓loopK_normal, ↓loopK_exit, ↓loopK_ret, ↓loopK_goto, ↓loopK_panic, ↓topK_ret, ↓topK_normal, ↓topK_panic, ↓resVs_nil, ↓resVs_tmp, ↓resVs_cell, tup_one, tup_nil, tup_two, put_get, argE_get, ↓takeE_def, ↓heldE_nil, ↓heldE_cons, qNil_pt, qPick_bool, qGrd_bool, qGrd_undef, ↓letK_def, pBox_eq, pBin_add, pBin_sub, pBin_mul, pBin_eql, pBin_neq, pBin_lss, pBin_leq, pBin_gtr, pBin_geq, pUn_not, pUn_neg, eqB, neB, eqS, neS, pExtract0, pExtract1, pExtract2, max_int, min_int, sz_nw, sz_wr, sz_drew, mm_nw, fz_nw, mm_drew, fz_drew, fz_wr, sz_mkS, mm_mkS, fz_mkS, Fr.mkS, mm_wr_same, mm_wr_ne, wr_wr, bs_oneT, splice_full, gt_zero, gt_succ, gt_set, gt_bs, byte_eq0, byte_eq1, byte_n0, byte_n1, Fr.refl, Fr.nw, Fr.wr, Fr.drew, e5, hXm, hol, g0, ki105, kk105]
        by_cases k2 : p.kind = 105
        · have henc : encP p = digits (zig p.i) := by unfold encP; rw [if_neg k1, if_pos k2]
          try simp (maxDischargeDepth := 8) [↓bindV_some, ↓bindU_some, ↓condE_true, ↓condE_false, ↓pickE_true, ↓pickE_false, ↓pickE_or, ↓pickE_and, ↓grdE_true, ↓grdE_false, ↓grdE_tf, ↓grdE_ft, ↓grdE_undef, ↓nilE_pt, ↓thenK_normal, ↓thenK_exit, ↓thenK_ret, ↓thenK_goto, ↓thenK_panic, ↓blockK_exit, ↓blockK_normal, ↓blockK_ret, ↓blockK_goto, ↓blockK_panic, ↓loopK_normal, ↓loopK_exit, ↓loopK_ret, ↓loopK_goto, ↓loopK_panic, ↓topK_ret, ↓topK_normal, ↓topK_panic, ↓resVs_nil, ↓resVs_tmp, ↓resVs_cell, tup_one, tup_nil, tup_two, put_get, argE_get, ↓takeE_def, ↓heldE_nil, ↓heldE_cons, qNil_pt, qPick_bool, qGrd_bool, qGrd_undef, ↓letK_def, pBox_eq, pBin_add, pBin_sub, pBin_mul, pBin_eql, pBin_neq, pBin_lss, pBin_leq, pBin_gtr, pBin_geq, pUn_not, pUn_neg, eqB, neB, eqS, neS, pExtract0, pExtract1, pExtract2, max_int, min_int, sz_nw, sz_wr, sz_drew, mm_nw, fz_nw, mm_drew, fz_drew, fz_wr, sz_mkS, mm_mkS, fz_mkS, Fr.mkS, mm_wr_same, mm_wr_ne, wr_wr, bs_oneT, splice_full, gt_zero, gt_succ, gt_set, gt_bs, byte_eq0, byte_eq1, byte_n0, byte_n1, Fr.refl, Fr.nw, Fr.wr, Fr.drew, e5, hXm, hol, q2, k2]
          refine (wI_spec hwX hi.1 hi.2 (by rw [henc] at hlen; omega)).call ?_
          rintro _ w4 ⟨rfl, F2, hm2⟩
          rw [← henc] at hm2
          try simp (maxDischargeDepth := 8) [↓bindV_some, ↓bindU_some, ↓condE_true, ↓condE_false, ↓pickE_true, ↓pickE_false, ↓pickE_or, ↓pickE_and, ↓grdE_true, ↓grdE_false, ↓grdE_tf, ↓grdE_ft, ↓grdE_undef, ↓nilE_pt, ↓thenK_normal, ↓thenK_exit, ↓thenK_ret, ↓thenK_goto, ↓thenK_panic, ↓blockK_exit, ↓blockK_normal, ↓blockK_ret, ↓blockK_goto, ↓blockK_panic, ↓loopK_normal, ↓loopK_exit, ↓loopK_ret, ↓loopK_goto, ↓loopK_panic, ↓topK_ret, ↓topK_normal, ↓topK_panic, ↓resVs_nil, ↓resVs_tmp, ↓resVs_cell, tup_one, tup_nil, tup_two, put_get, argE_get, ↓takeE_def, ↓heldE_nil, ↓heldE_cons, qNil_pt, qPick_bool, qGrd_bool, qGrd_undef, ↓letK_def, pBox_eq, pBin_add, pBin_sub, pBin_mul, pBin_eql, pBin_neq, pBin_lss, pBin_leq, pBin_gtr, pBin_geq, pUn_not, pUn_neg, eqB, neB, eqS, neS, pExtract0, pExtract1, pExtract2, max_int, min_int, sz_nw, sz_wr, sz_drew, mm_nw, fz_nw, mm_drew, fz_drew, fz_wr, sz_mkS, mm_mkS, fz_mkS, Fr.mkS, mm_wr_same, mm_wr_ne, wr_wr, bs_oneT, splice_full, gt_zero, gt_succ, gt_set, gt_bs, byte_eq0, byte_eq1, byte_n0, byte_n1, Fr.refl, Fr.nw, Fr.wr, Fr.drew, e5]
          exact hK' _ _ (mid _ _ F2 hm2 (by simp [put_get, e5]) (by simp [put_get, e6]) (by simp [put_get]) (by simp [put_get, e21]) (by simp [put_get, e22]) (by simp [put_get, e23]))
        try simp (maxDischargeDepth := 8) [↓bindV_some, ↓bindU_some, ↓condE_true, ↓condE_false, ↓pickE_true, ↓pickE_false, ↓pickE_or, ↓pickE_and, ↓grdE_true, ↓grdE_false, ↓grdE_tf, ↓grdE_ft, ↓grdE_undef, ↓nilE_pt, ↓thenK_normal, ↓thenK_exit, ↓thenK_ret, ↓thenK_goto, ↓thenK_panic, ↓blockK_exit, ↓blockK_normal, ↓blockK_ret, ↓blockK_goto, ↓blockK_panic, ↓loopK_normal, ↓loopK_exit, ↓loopK_ret, ↓loopK_goto, ↓loopK_panic, ↓topK_ret, ↓topK_normal, ↓topK_panic, ↓resVs_nil, ↓resVs_tmp, ↓resVs_cell, tup_one, tup_nil, tup_two, put_get, argE_get, ↓takeE_def, ↓heldE_nil, ↓heldE_cons, qNil_pt, qPick_bool, qGrd_bool, qGrd_undef, ↓letK_def, pBox_eq, pBin_add, pBin_sub, pBin_mul, pBin_eql, pBin_neq, pBin_lss, pBin_leq, pBin_gtr, pBin_geq, pUn_not, pUn_neg, eqB, neB, eqS, neS, pExtract0, pExtract1, pExtract2, max_int, min_int, sz_nw, sz_wr, sz_drew, mm_nw, fz_nw, mm_drew, fz_drew, fz_wr, sz_mkS, mm_mkS, fz_mkS, Fr.mkS, mm_wr_same, mm_wr_ne, wr_wr, bs_oneT, splice_full, gt_zero, gt_succ, gt_set, gt_bs, byte_eq0, byte_eq1, byte_n0, byte_n1, Fr.refl, Fr.nw, Fr.wr, Fr.drew, e5, hXm, hol, g0, k2, ki102, kk102]
        by_cases k3 : p.kind = 102
        · have henc : encP p = placeB (key p.f) := by unfold encP; rw [if_neg k1, if_neg k2, if_pos k3]
          try simp (maxDischargeDepth := 8) [↓bindV_some, ↓bindU_some, ↓condE_true, ↓condE_false, ↓pickE_true, ↓pickE_false, ↓pickE_or, ↓pickE_and, ↓grdE_true, ↓grdE_false, ↓grdE_tf, ↓grdE_ft, ↓grdE_undef, ↓nilE_pt, ↓thenK_normal, ↓thenK_exit, ↓thenK_ret, ↓thenK_goto, ↓thenK_panic, ↓blockK_exit, ↓blockK_normal, ↓blockK_ret, ↓blockK_goto, ↓blockK_panic, ↓loopK_normal, ↓loopK_exit, ↓loopK_ret, ↓loopK_goto, ↓loopK_panic, ↓topK_ret, ↓topK_normal, ↓topK_panic, ↓resVs_nil, ↓resVs_tmp, ↓resVs_cell, tup_one, tup_nil, tup_two, put_get, argE_get, ↓takeE_def, ↓heldE_nil, ↓heldE_cons, qNil_pt, qPick_bool, qGrd_bool, qGrd_undef, ↓letK_def, pBox_eq, pBin_add, pBin_sub, pBin_mul, pBin_eql, pBin_neq, pBin_lss, pBin_leq, pBin_gtr, pBin_geq, pUn_not, pUn_neg, eqB, neB, eqS, neS, pExtract0, pExtract1, pExtract2, max_int, min_int, sz_nw, sz_wr, sz_drew, mm_nw, fz_nw, mm_drew, fz_drew, fz_wr, sz_mkS, mm_mkS, fz_mkS, Fr.mkS, mm_wr_same, mm_wr_ne, wr_wr, bs_oneT, splice_full, gt_zero, gt_succ, gt_set, gt_bs, byte_eq0, byte_eq1, byte_n0, byte_n1, Fr.refl, Fr.nw, Fr.wr, Fr.drew, e5, hXm, hol, g3, k3]
          refine (wF_spec hwX hf (by rw [henc] at hlen; have := h8 (key p.f); omega)).call ?_
          rintro _ w4 ⟨rfl, F2, hm2⟩
          rw [← henc] at hm2
          try simp (maxDischargeDepth := 8) [↓bindV_some, ↓bindU_some, ↓condE_true, ↓condE_false, ↓pickE_true, ↓pickE_false, ↓pickE_or, ↓pickE_and, ↓grdE_true, ↓grdE_false, ↓grdE_tf, ↓grdE_ft, ↓grdE_undef, ↓nilE_pt, ↓thenK_normal, ↓thenK_exit, ↓thenK_ret, ↓thenK_goto, ↓thenK_panic, ↓blockK_exit, ↓blockK_normal, ↓blockK_ret, ↓blockK_goto, ↓blockK_panic, ↓loopK_normal, ↓loopK_exit, ↓loopK_ret, ↓loopK_goto, ↓loopK_panic, ↓topK_ret, ↓topK_normal, ↓topK_panic, ↓resVs_nil, ↓resVs_tmp, ↓resVs_cell, tup_one, tup_nil, tup_two, put_get, argE_get, ↓takeE_def, ↓heldE_nil, ↓heldE_cons, qNil_pt, qPick_bool, qGrd_bool, qGrd_undef, ↓letK_def, pBox_eq, pBin_add, pBin_sub, pBin_mul, pBin_eql, pBin_neq, pBin_lss, pBin_leq, pBin_gtr, pBin_geq, pUn_not, pUn_neg, eqB, neB, eqS, neS, pExtract0, pExtract1, pExtract2, max_int, min_int, sz_nw, sz_wr, sz_drew, mm_nw, fz_nw, mm_drew, fz_drew, fz_wr, sz_mkS, mm_mkS, fz_mkS, Fr.mkS, mm_wr_same, mm_wr_ne, wr_wr, bs_oneT, splice_full, gt_zero, gt_succ, gt_set, gt_bs, byte_eq0, byte_eq1, byte_n0, byte_n1, Fr.refl, Fr.nw, Fr.wr, Fr.drew, e5]
          exact hK' _ _ (mid _ _ F2 hm2 (by simp [put_get, e5]) (by simp [put_get, e6]) (by simp [put_get]) (by simp [put_get, e21]) (by simp [put_get, e22]) (by simp [put_get, e23]))
        try simp (maxDischargeDepth := 8) [↓bindV_some, ↓bindU_some, ↓condE_true, ↓condE_false, ↓pickE_true, ↓pickE_false, ↓pickE_or, ↓pickE_and, ↓grdE_true, ↓grdE_false, ↓grdE_tf, ↓grdE_ft, ↓grdE_undef, ↓nilE_pt, ↓thenK_normal, ↓thenK_exit, ↓thenK_ret, ↓thenK_goto, ↓thenK_panic, ↓blockK_exit, ↓blockK_normal, ↓blockK_ret, ↓blockK_goto, ↓blockK_panic, ↓loopK_normal, ↓loopK_exit, ↓loopK_ret, ↓loopK_goto, ↓loopK_panic, ↓topK_ret, ↓topK_normal, ↓topK_panic, ↓resVs_nil, ↓resVs_tmp, ↓resVs_cell, tup_one, tup_nil, tup_two, put_get, argE_get, ↓takeE_def, ↓heldE_nil, ↓heldE_cons, qNil_pt, qPick_bool, qGrd_bool, qGrd_undef, ↓letK_def, pBox_eq, pBin_add, pBin_sub, pBin_mul, pBin_eql, pBin_neq, pBin_lss, pBin_leq, pBin_gtr, pBin_geq, pUn_not, pUn_neg, eqB, neB, eqS, neS, pExtract0, pExtract1, pExtract2, max_int, min_int, sz_nw, sz_wr, sz_drew, mm_nw, fz_nw, mm_drew, fz_drew, fz_wr, sz_mkS, mm_mkS, fz_mkS, Fr.mkS, mm_wr_same, mm_wr_ne, wr_wr, bs_oneT, splice_full, gt_zero, gt_succ, gt_set, gt_bs, byte_eq0, byte_eq1, byte_n0, byte_n1, Fr.refl, Fr.nw, Fr.wr, Fr.drew, e5, hXm, hol, g0, k3, ki115, kk115]
        by_cases k4 : p.kind = 115
        · have henc : encP p = digits p.s.length ++ p.s := by unfold encP; rw [if_neg k1, if_neg k2, if_neg k3, if_pos k4]
          try simp (maxDischargeDepth := 8) [↓bindV_some, ↓bindU_some, ↓condE_true, ↓condE_false, ↓pickE_true, ↓pickE_false, ↓pickE_or, ↓pickE_and, ↓grdE_true, ↓grdE_false, ↓grdE_tf, ↓grdE_ft, ↓grdE_undef, ↓nilE_pt, ↓thenK_normal, ↓thenK_exit, ↓thenK_ret, ↓thenK_goto, ↓thenK_panic, ↓blockK_exit, ↓blockK_normal, ↓blockK_ret, ↓blockK_goto, ↓blockK_panic, ↓loopK_normal, ↓loopK_exit, ↓loopK_ret, ↓loopK_goto, ↓loopK_panic, ↓topK_ret, ↓topK_normal, ↓topK_panic, ↓resVs_nil, ↓resVs_tmp, ↓resVs_cell, tup_one, tup_nil, tup_two, put_get, argE_get, ↓takeE_def, ↓heldE_nil, ↓heldE_cons, qNil_pt, qPick_bool, qGrd_bool, qGrd_undef, ↓letK_def, pBox_eq, pBin_add, pBin_sub, pBin_mul, pBin_eql, pBin_neq, pBin_lss, pBin_leq, pBin_gtr, pBin_geq, pUn_not, pUn_neg, eqB, neB, eqS, neS, pExtract0, pExtract1, pExtract2, max_int, min_int, sz_nw, sz_wr, sz_drew, mm_nw, fz_nw, mm_drew, fz_drew, fz_wr, sz_mkS, mm_mkS, fz_mkS, Fr.mkS, mm_wr_same, mm_wr_ne, wr_wr, bs_oneT, splice_full, gt_zero, gt_succ, gt_set, gt_bs, byte_eq0, byte_eq1, byte_n0, byte_n1, Fr.refl, Fr.nw, Fr.wr, Fr.drew, e5, hXm, hol, g4, k4]
          refine (wS_spec hwX (l := p.s) (by rw [henc, List.length_append] at hlen; omega)).call ?_
          rintro _ w4 ⟨rfl, F2, hm2⟩
          rw [← henc] at hm2
          try simp (maxDischargeDepth := 8) [↓bindV_some, ↓bindU_some, ↓condE_true, ↓condE_false, ↓pickE_true, ↓pickE_false, ↓pickE_or, ↓pickE_and, ↓grdE_true, ↓grdE_false, ↓grdE_tf, ↓grdE_ft, ↓grdE_undef, ↓nilE_pt, ↓thenK_normal, ↓thenK_exit, ↓thenK_ret, ↓thenK_goto, ↓thenK_panic, ↓blockK_exit, ↓blockK_normal, ↓blockK_ret, ↓blockK_goto, ↓blockK_panic, ↓loopK_normal, ↓loopK_exit, ↓loopK_ret, ↓loopK_goto, ↓loopK_panic, ↓topK_ret, ↓topK_normal, ↓topK_panic, ↓resVs_nil, ↓resVs_tmp, ↓resVs_cell, tup_one, tup_nil, tup_two, put_get, argE_get, ↓takeE_def, ↓heldE_nil, ↓heldE_cons, qNil_pt, qPick_bool, qGrd_bool, qGrd_undef, ↓letK_def, pBox_eq, pBin_add, pBin_sub, pBin_mul, pBin_eql, pBin_neq, pBin_lss, pBin_leq, pBin_gtr, pBin_geq, pUn_not, pUn_neg, eqB, neB, eqS, neS, pExtract0, pExtract1, pExtract2, max_int, min_int, sz_nw, sz_wr, sz_drew, mm_nw, fz_nw, mm_drew, fz_drew, fz_wr, sz_mkS, mm_mkS, fz_mkS, Fr.mkS, mm_wr_same, mm_wr_ne, wr_wr, bs_oneT, splice_full, gt_zero, gt_succ, gt_set, gt_bs, byte_eq0, byte_eq1, byte_n0, byte_n1, Fr.refl, Fr.nw, Fr.wr, Fr.drew, e5]
          exact hK' _ _ (mid _ _ F2 hm2 (by simp [put_get, e5]) (by simp [put_get, e6]) (by simp [put_get]) (by simp [put_get, e21]) (by simp [put_get, e22]) (by simp [put_get, e23]))
        try simp (maxDischargeDepth := 8) [↓bindV_some, ↓bindU_some, ↓condE_true, ↓condE_false, ↓pickE_true, ↓pickE_false, ↓pickE_or, ↓pickE_and, ↓grdE_true, ↓grdE_false, ↓grdE_tf, ↓grdE_ft, ↓grdE_undef, ↓nilE_pt, ↓thenK_normal, ↓thenK_exit, ↓thenK_ret, ↓thenK_goto, ↓thenK_panic, ↓blockK_exit, ↓blockK_normal, ↓blockK_ret, ↓blockK_goto, ↓blockK_panic, ↓loopK_normal, ↓loopK_exit, ↓loopK_ret, ↓loopK_goto, ↓loopK_panic, ↓topK_ret, ↓topK_normal, ↓topK_panic, ↓resVs_nil, ↓resVs_tmp, ↓resVs_cell, tup_one, tup_nil, tup_two, put_get, argE_get, ↓takeE_def, ↓heldE_nil, ↓heldE_cons, qNil_pt, qPick_bool, qGrd_bool, qGrd_undef, ↓letK_def, pBox_eq, pBin_add, pBin_sub, pBin_mul, pBin_eql, pBin_neq, pBin_lss, pBin_leq, pBin_gtr, pBin_geq, pUn_not, pUn_neg, eqB, neB, eqS, neS, pExtract0, pExtract1, pExtract2, max_int, min_int, sz_nw, sz_wr, sz_drew, mm_nw, fz_nw, mm_drew, fz_drew, fz_wr, sz_mkS, mm_mkS, fz_mkS, Fr.mkS, mm_wr_same, mm_wr_ne, wr_wr, bs_oneT, splice_full, gt_zero, gt_succ, gt_set, gt_bs, byte_eq0, byte_eq1, byte_n0, byte_n1, Fr.refl, Fr.nw, Fr.wr, Fr.drew, e5, hXm, hol, g0, k4, ki98, kk98]
        have k5 : p.kind = 98 := by rcases hpk with h | h | h | h | h <;> first | exact h | exact absurd h k1 | exact absurd h k2 | exact absurd h k3 | exact absurd h k4
        have henc : encP p = [if p.b then 1 else 0] := by unfold encP; rw [if_neg k1, if_neg k2, if_neg k3, if_neg k4, if_pos k5]
        try simp (maxDischargeDepth := 8) [↓bindV_some, ↓bindU_some, ↓condE_true, ↓condE_false, ↓pickE_true, ↓pickE_false, ↓pickE_or, ↓pickE_and, ↓grdE_true, ↓grdE_false, ↓grdE_tf, ↓grdE_ft, ↓grdE_undef, ↓nilE_pt, ↓thenK_normal, ↓thenK_exit, ↓thenK_ret, ↓thenK_goto, ↓thenK_panic, ↓blockK_exit, ↓blockK_normal, ↓blockK_ret, ↓blockK_goto, ↓blockK_panic, ↓loopK_normal, ↓loopK_exit, ↓loopK_ret, ↓loopK_goto, ↓loopK_panic, ↓topK_ret, ↓topK_normal, ↓topK_panic, ↓resVs_nil, ↓resVs_tmp, ↓resVs_cell, tup_one, tup_nil, tup_two, put_get, argE_get, ↓takeE_def, ↓heldE_nil, ↓heldE_cons, qNil_pt, qPick_bool, qGrd_bool, qGrd_undef, ↓letK_def, pBox_eq, pBin_add, pBin_sub, pBin_mul, pBin_eql, pBin_neq, pBin_lss, pBin_leq, pBin_gtr, pBin_geq, pUn_not, pUn_neg, eqB, neB, eqS, neS, pExtract0, pExtract1, pExtract2, max_int, min_int, sz_nw, sz_wr, sz_drew, mm_nw, fz_nw, mm_drew, fz_drew, fz_wr, sz_mkS, mm_mkS, fz_mkS, Fr.mkS, mm_wr_same, mm_wr_ne, wr_wr, bs_oneT, splice_full, gt_zero, gt_succ, gt_set, gt_bs, byte_eq0, byte_eq1, byte_n0, byte_n1, Fr.refl, Fr.nw, Fr.wr, Fr.drew, e5, hXm, hol, g5, k5]
        refine (wFlag_spec hwX (x := p.b) (by rw [henc] at hlen; simp only [List.length_cons, List.length_nil] at hlen; omega)).call ?_
        rintro _ w4 ⟨rfl, F2, hm2⟩
        rw [← henc] at hm2
        try simp (maxDischargeDepth := 8) [↓bindV_some, ↓bindU_some, ↓condE_true, ↓condE_false, ↓pickE_true, ↓pickE_false, ↓pickE_or, ↓pickE_and, ↓grdE_true, ↓grdE_false, ↓grdE_tf, ↓grdE_ft, ↓grdE_undef, ↓nilE_pt, ↓thenK_normal, ↓thenK_exit, ↓thenK_ret, ↓thenK_goto, ↓thenK_panic, ↓blockK_exit, ↓blockK_normal, ↓blockK_ret, ↓blockK_goto, ↓blockK_panic, ↓loopK_normal, ↓loopK_exit, ↓loopK_ret, ↓loopK_goto, ↓loopK_panic, ↓topK_ret, ↓topK_normal, ↓topK_panic, ↓resVs_nil, ↓resVs_tmp, ↓resVs_cell, tup_one, tup_nil, tup_two, put_get, argE_get, ↓takeE_def, ↓heldE_nil, ↓heldE_cons, qNil_pt, qPick_bool, qGrd_bool, qGrd_undef, ↓letK_def, pBox_eq, pBin_add, pBin_sub, pBin_mul, pBin_eql, pBin_neq, pBin_lss, pBin_leq, pBin_gtr, pBin_geq, pUn_not, pUn_neg, eqB, neB, eqS, neS, pExtract0, pExtract1, pExtract2, max_int, min_int, sz_nw, sz_wr, sz_drew, mm_nw, fz_nw, mm_drew, fz_drew, fz_wr, sz_mkS, mm_mkS, fz_mkS, Fr.mkS, mm_wr_same, mm_wr_ne, wr_wr, bs_oneT, splice_full, gt_zero, gt_succ, gt_set, gt_bs, byte_eq0, byte_eq1, byte_n0, byte_n1, Fr.refl, Fr.nw, Fr.wr, Fr.drew, e5]
        exact hK' _ _ (mid _ _ F2 hm2 (by simp [put_get, e5]) (by simp [put_get, e6]) (by simp [put_get]) (by simp [put_get, e21]) (by simp [put_get, e22]) (by simp [put_get, e23]))
      · clear mid
        intro e' w4 hM
        obtain ⟨F2, hw4, hO4, hown4, hne4, hpm4, e5, e6, e8, e21, e22, e23⟩ := hM
        have hp6 : 6 ≤ (mm w4 (sz w3)).length := by rw [hpm4, hol]; omega
        have hld : pLoad P 60 (pt (sz w3) 0) w4 = some (.agg (partC p).toArray, w4) := by rw [ld60 (by omega), hpm4]; rfl
        have hokp : ∀ q ∈ [p], okP q := by intro q hq; rw [List.mem_singleton] at hq; subst hq; exact h.2 _ hpm
        have hsp : ∀ q ∈ [p], q.s.length ≤ 1000 := by intro q hq; rw [List.mem_singleton] at hq; subst hq; exact hps
        have hF2 : ∀ k ∈ F2, k < sz w4 := by obtain ⟨_, _, _, _, _, _, h6⟩ := id hw4; exact h6
        try simp (maxDischargeDepth := 8) [↓bindV_some, ↓bindU_some, ↓condE_true, ↓condE_false, ↓pickE_true, ↓pickE_false, ↓pickE_or, ↓pickE_and, ↓grdE_true, ↓grdE_false, ↓grdE_tf, ↓grdE_ft, ↓grdE_undef, ↓nilE_pt, ↓thenK_normal, ↓thenK_exit, ↓thenK_ret, ↓thenK_goto, ↓thenK_panic, ↓blockK_exit, ↓blockK_normal, ↓blockK_ret, ↓blockK_goto, ↓blockK_panic, ↓loopK_normal, ↓loopK_exit, ↓loopK_ret, ↓loopK_goto, ↓loopK_panic, ↓topK_ret, ↓topK_normal, ↓topK_panic, ↓resVs_nil, ↓resVs_tmp, ↓resVs_cell, tup_one, tup_nil, tup_two, put_get, argE_get, ↓takeE_def, ↓heldE_nil, ↓heldE_cons, qNil_pt, qPick_bool, qGrd_bool, qGrd_undef, ↓letK_def, pBox_eq, pBin_add, pBin_sub, pBin_mul, pBin_eql, pBin_neq, pBin_lss, pBin_leq, pBin_gtr, pBin_geq, pUn_not, pUn_neg, eqB, neB, eqS, neS, pExtract0, pExtract1, pExtract2, max_int, min_int, sz_nw, sz_wr, sz_drew, mm_nw, fz_nw, mm_drew, fz_drew, fz_wr, sz_mkS, mm_mkS, fz_mkS, Fr.mkS, mm_wr_same, mm_wr_ne, wr_wr, bs_oneT, splice_full, gt_zero, gt_succ, gt_set, gt_bs, byte_eq0, byte_eq1, byte_n0, byte_n1, Fr.refl, Fr.nw, Fr.wr, Fr.drew, e8, hld, bs_part, -ld60, -bsl37]
        have f5 : Fr [] w4 (nw w4 (flat partC [p]) 60) := (Fr.refl [] w4).nw _ _
        refine (plain_spec (L := [p]) ⟨rd_new w4 (flat partC [p]) 60 (n := 1) (by unfold maxLen; omega), hokp⟩ (by simp)).call ?_
        rintro x w5 ⟨hx, f6⟩
        have hen : encRs ([p].map plain) = encP p := by rw [encRs_plain]; simp [encAll]
        have hwr := fwrite_spec (refs_plain (L := [p]) (own_rd hx) hokp hsp) (by rw [hen]; omega)
        rw [hen] at hwr
        try simp (maxDischargeDepth := 8) [↓bindV_some, ↓bindU_some, ↓condE_true, ↓condE_false, ↓pickE_true, ↓pickE_false, ↓pickE_or, ↓pickE_and, ↓grdE_true, ↓grdE_false, ↓grdE_tf, ↓grdE_ft, ↓grdE_undef, ↓nilE_pt, ↓thenK_normal, ↓thenK_exit, ↓thenK_ret, ↓thenK_goto, ↓thenK_panic, ↓blockK_exit, ↓blockK_normal, ↓blockK_ret, ↓blockK_goto, ↓blockK_panic, ↓loopK_normal, ↓loopK_exit, ↓loopK_ret, ↓loopK_goto, ↓loopK_panic, ↓topK_ret, ↓topK_normal, ↓topK_panic, ↓resVs_nil, ↓resVs_tmp, ↓resVs_cell, tup_one, tup_nil, tup_two, put_get, argE_get, ↓takeE_def, ↓heldE_nil, ↓heldE_cons, qNil_pt, qPick_bool, qGrd_bool, qGrd_undef, ↓letK_def, pBox_eq, pBin_add, pBin_sub, pBin_mul, pBin_eql, pBin_neq, pBin_lss, pBin_leq, pBin_gtr, pBin_geq, pUn_not, pUn_neg, eqB, neB, eqS, neS, pExtract0, pExtract1, pExtract2, max_int, min_int, sz_nw, sz_wr, sz_drew, mm_nw, fz_nw, mm_drew, fz_drew, fz_wr, sz_mkS, mm_mkS, fz_mkS, Fr.mkS, mm_wr_same, mm_wr_ne, wr_wr, bs_oneT, splice_full, gt_zero, gt_succ, gt_set, gt_bs, byte_eq0, byte_eq1, byte_n0, byte_n1, Fr.refl, Fr.nw, Fr.wr, Fr.drew]
        refine hwr.call ?_
        rintro y w6 ⟨hy, f7⟩
        have q6 := (f5.trans0 f6).trans0 f7
        obtain ⟨v', w7, hrun, hown7, hg7, hv7⟩ := append_own2 (P := P) (t := 40) (ty := 40) (sz w2) sliceE40 hasZero5 cellsOf5 (by rw [zeroL5]; rfl) (by omega) (own_fr hown4 q6 (by simp)) (by have := hO4.fr.size; have := q6.size; omega) (own_rd hy) (by simp) bs_one
          (by unfold maxLen; omega) (by rw [bytesOf5]; omega)
        have f8 := Fr.of_grown hg7
        have hw7 := (hw4.fr0 q6).fr f8 (fun k hk hk2 => hne4 k (by simpa using hk2) hk)
        have hO7 : Own w2 w7 F2 := ⟨(hO4.fr.trans0 q6).trans f8 (fun k hk => .inr (own_lt hown4 k (by simpa using hk)).1), hO4.own⟩
        have hne7 : ∀ c, v'.ownBlock = some c → c ∉ F2 := fun c hc hk => by
          rcases hv7 with h | h
          · exact hne4 c (by rw [← h]; exact hc) hk
          · have : c = sz w6 := by rw [h] at hc; simpa using hc.symm
            have := hF2 c hk
            have := q6.size
            omega
        rw [← bs_append, ← List.length_append, ← hnext] at hown7
        rw [← hnext] at hw7
        rw [← List.length_append, ← hnext] at hlen
        obtain ⟨C, hC⟩ : ∃ C, C = encAll (L.take (j + 1)) := ⟨_, rfl⟩
        rw [← hC] at hown7 hw7 hlen
        obtain ⟨va', vc', hva'⟩ := own_val hown7
        have hlv' : ∀ w, pBuiltin P .len #[40] 3 [v'] w = some (i64 C.length, w) := fun w => by rw [hva']; exact len40
        try simp (maxDischargeDepth := 8) [↓bindV_some, ↓bindU_some, ↓condE_true, ↓condE_false, ↓pickE_true, ↓pickE_false, ↓pickE_or, ↓pickE_and, ↓grdE_true, ↓grdE_false, ↓grdE_tf, ↓grdE_ft, ↓grdE_undef, ↓nilE_pt, ↓thenK_normal, ↓thenK_exit, ↓thenK_ret, ↓thenK_goto, ↓thenK_panic, ↓blockK_exit, ↓blockK_normal, ↓blockK_ret, ↓blockK_goto, ↓blockK_panic, ↓loopK_normal, ↓loopK_exit, ↓loopK_ret, ↓loopK_goto, ↓loopK_panic, ↓topK_ret, ↓topK_normal, ↓topK_panic, ↓resVs_nil, ↓resVs_tmp, ↓resVs_cell, tup_one, tup_nil, tup_two, put_get, argE_get, ↓takeE_def, ↓heldE_nil, ↓heldE_cons, qNil_pt, qPick_bool, qGrd_bool, qGrd_undef, ↓letK_def, pBox_eq, pBin_add, pBin_sub, pBin_mul, pBin_eql, pBin_neq, pBin_lss, pBin_leq, pBin_gtr, pBin_geq, pUn_not, pUn_neg, eqB, neB, eqS, neS, pExtract0, pExtract1, pExtract2, max_int, min_int, sz_nw, sz_wr, sz_drew, mm_nw, fz_nw, mm_drew, fz_drew, fz_wr, sz_mkS, mm_mkS, fz_mkS, Fr.mkS, mm_wr_same, mm_wr_ne, wr_wr, bs_oneT, splice_full, gt_zero, gt_succ, gt_set, gt_bs, byte_eq0, byte_eq1, byte_n0, byte_n1, Fr.refl, Fr.nw, Fr.wr, Fr.drew, e5, e6, hrun]
        refine (wBytes_spec hw7 (by omega)).call ?_
        rintro zv w8 ⟨hz8, f9⟩
        have cz : pConv P 40 9 zv w8 = some (strB C, w8) := conv_str sliceE40 intK5 und9 (own_rd hz8)
        have cv : pConv P 40 9 v' w8 = some (strB C, w8) := conv_str sliceE40 intK5 und9 ((own_rd hown7).fr0 f9)
        have hnq : ∀ w, pBin P .neq 9 false (strB C) (strB C) w = some (.bool false, w) := fun w => by rw [ne_strB]; simp
        obtain ⟨za, zc, hza⟩ := own_val hz8
        have hlz : ∀ w, pBuiltin P .len #[40] 3 [zv] w = some (i64 C.length, w) := fun w => by rw [hza]; exact len40
        try simp (maxDischargeDepth := 8) [↓bindV_some, ↓bindU_some, ↓condE_true, ↓condE_false, ↓pickE_true, ↓pickE_false, ↓pickE_or, ↓pickE_and, ↓grdE_true, ↓grdE_false, ↓grdE_tf, ↓grdE_ft, ↓grdE_undef, ↓nilE_pt, ↓thenK_normal, ↓thenK_exit, ↓thenK_ret, ↓thenK_goto, ↓thenK_panic, ↓blockK_exit, ↓blockK_normal, ↓blockK_ret, ↓blockK_goto, ↓blockK_panic, ↓loopK_normal, ↓loopK_exit, ↓loopK_ret, ↓loopK_goto, ↓loopK_panic, ↓topK_ret, ↓topK_normal, ↓topK_panic, ↓resVs_nil, ↓resVs_tmp, ↓resVs_cell, tup_one, tup_nil, tup_two, put_get, argE_get, ↓takeE_def, ↓heldE_nil, ↓heldE_cons, qNil_pt, qPick_bool, qGrd_bool, qGrd_undef, ↓letK_def, pBox_eq, pBin_add, pBin_sub, pBin_mul, pBin_eql, pBin_neq, pBin_lss, pBin_leq, pBin_gtr, pBin_geq, pUn_not, pUn_neg, eqB, neB, eqS, neS, pExtract0, pExtract1, pExtract2, max_int, min_int, sz_nw, sz_wr, sz_drew, mm_nw, fz_nw, mm_drew, fz_drew, fz_wr, sz_mkS, mm_mkS, fz_mkS, Fr.mkS, mm_wr_same, mm_wr_ne, wr_wr, bs_oneT, splice_full, gt_zero, gt_succ, gt_set, gt_bs, byte_eq0, byte_eq1, byte_n0, byte_n1, Fr.refl, Fr.nw, Fr.wr, Fr.drew, e5, e6, cz, cv, hnq]
        refine (wLen_spec (hw7.fr0 f9)).call ?_
        rintro _ w9 ⟨rfl, f10⟩
        try simp (maxDischargeDepth := 8) [↓bindV_some, ↓bindU_some, ↓condE_true, ↓condE_false, ↓pickE_true, ↓pickE_false, ↓pickE_or, ↓pickE_and, ↓grdE_true, ↓grdE_false, ↓grdE_tf, ↓grdE_ft, ↓grdE_undef, ↓nilE_pt, ↓thenK_normal, ↓thenK_exit, ↓thenK_ret, ↓thenK_goto, ↓thenK_panic, ↓blockK_exit, ↓blockK_normal, ↓blockK_ret, ↓blockK_goto, ↓blockK_panic, ↓loopK_normal, ↓loopK_exit, ↓loopK_ret, ↓loopK_goto, ↓loopK_panic, ↓topK_ret, ↓topK_normal, ↓topK_panic, ↓resVs_nil, ↓resVs_tmp, ↓resVs_cell, tup_one, tup_nil, tup_two, put_get, argE_get, ↓takeE_def, ↓heldE_nil, ↓heldE_cons, qNil_pt, qPick_bool, qGrd_bool, qGrd_undef, ↓letK_def, pBox_eq, pBin_add, pBin_sub, pBin_mul, pBin_eql, pBin_neq, pBin_lss, pBin_leq, pBin_gtr, pBin_geq, pUn_not, pUn_neg, eqB, neB, eqS, neS, pExtract0, pExtract1, pExtract2, max_int, min_int, sz_nw, sz_wr, sz_drew, mm_nw, fz_nw, mm_drew, fz_drew, fz_wr, sz_mkS, mm_mkS, fz_mkS, Fr.mkS, mm_wr_same, mm_wr_ne, wr_wr, bs_oneT, splice_full, gt_zero, gt_succ, gt_set, gt_bs, byte_eq0, byte_eq1, byte_n0, byte_n1, Fr.refl, Fr.nw, Fr.wr, Fr.drew, hlv', hlz]
        obtain ⟨zb, c, hzge, hzb⟩ : ∃ zb c, sz w7 ≤ zb ∧ (0 < C.length → zv = sl zb 0 C.length c ∧ sz w7 ≤ zb ∧ zb < sz w8 ∧ fz w8 zb = false ∧ C.length ≤ (mm w8 zb).length ∧ C.length ≤ c) := by
          by_cases h0 : 0 < C.length
          · obtain ⟨zb, c, hh⟩ := own_room hz8 h0
            exact ⟨zb, c, hh.2.1, fun _ => hh⟩
          · exact ⟨sz w8, 0, f9.size, fun h => absurd h h0⟩
        have hF7 : ∀ k ∈ F2, k < sz w7 := by obtain ⟨_, _, _, _, _, _, h6⟩ := id hw7; exact h6
        refine loopE_of (PzI w9 zv v' v (sz w2) zb c C.length L.length j) C.length ⟨0, by omega, by omega, Fr.refl _ _, fun h0 => ?_, by simp [put_get, e5], by simp [put_get], by simp [put_get], by simp [put_get, e21], by simp [put_get, e22], by simp [put_get, e23], by simp [put_get], by simp [put_get]⟩ ?_
        · obtain ⟨b1, b2, b3, b4, b5, b6⟩ := hzb h0
          exact ⟨b1, b6, by rw [f10.fz b3 (by simp), b4], by rw [f10.mm b3 (by simp)]; exact b5⟩
        rintro m e2 w10 ⟨i, hm, hi2, hf10, hz10, a5, a6, a9, a21, a22, a23, a73, a74⟩
        subst hm
        unfold F15B1
        have hmx : C.length ≤ 1000000 := by omega
        by_cases hil : i < C.length
        · have hii : ((i : Int) < C.length) = True := eq_true (by omega)
          have hii' : (i < C.length) = True := eq_true hil
          obtain ⟨b1, b6, b4, b5⟩ := hz10 (by omega)
          have hia2 : ∀ w', pIndexAddr P 40 zv (i64 i) w' = some (pt zb i, w') := fun w' => by
            rw [b1]
            have := ia40 (w := w') (b := zb) (o := 0) (n := C.length) (c := c) (k := .i64) (j := (i : Int)) (by omega) (by omega)
            rw [this]; simp
          have hib : i < (mm w10 zb).length := by omega
          have hwi : IntKind.i64.wrap ((i : Int) + 1) = ((i + 1 : Nat) : Int) := wrap64 (by omega) (by omega)
          obtain ⟨Y, hY⟩ : ∃ Y, pStore P 5 (pt zb i) (Value.int .u8 7) w10 = some Y ∧ Fr [zb] w10 Y ∧ fz Y zb = false ∧ (mm Y zb).length = (mm w10 zb).length := by
            refine ⟨_, st5 rfl b4 hib, (Fr.refl _ _).wr (.inl (by simp)) _, by rw [fz_wr, b4], by rw [mm_wr_same b4]; simp⟩
          obtain ⟨y1, y2, y3, y4⟩ := hY
          try simp (maxDischargeDepth := 8) [↓bindV_some, ↓bindU_some, ↓condE_true, ↓condE_false, ↓pickE_true, ↓pickE_false, ↓pickE_or, ↓pickE_and, ↓grdE_true, ↓grdE_false, ↓grdE_tf, ↓grdE_ft, ↓grdE_undef, ↓nilE_pt, ↓thenK_normal, ↓thenK_exit, ↓thenK_ret, ↓thenK_goto, ↓thenK_panic, ↓blockK_exit, ↓blockK_normal, ↓blockK_ret, ↓blockK_goto, ↓blockK_panic, ↓loopK_normal, ↓loopK_exit, ↓loopK_ret, ↓loopK_goto, ↓loopK_panic, ↓topK_ret, ↓topK_normal, ↓topK_panic, ↓resVs_nil, ↓resVs_tmp, ↓resVs_cell, tup_one, tup_nil, tup_two, put_get, argE_get, ↓takeE_def, ↓heldE_nil, ↓heldE_cons, qNil_pt, qPick_bool, qGrd_bool, qGrd_undef, ↓letK_def, pBox_eq, pBin_add, pBin_sub, pBin_mul, pBin_eql, pBin_neq, pBin_lss, pBin_leq, pBin_gtr, pBin_geq, pUn_not, pUn_neg, eqB, neB, eqS, neS, pExtract0, pExtract1, pExtract2, max_int, min_int, sz_nw, sz_wr, sz_drew, mm_nw, fz_nw, mm_drew, fz_drew, fz_wr, sz_mkS, mm_mkS, fz_mkS, Fr.mkS, mm_wr_same, mm_wr_ne, wr_wr, bs_oneT, splice_full, gt_zero, gt_succ, gt_set, gt_bs, byte_eq0, byte_eq1, byte_n0, byte_n1, Fr.refl, Fr.nw, Fr.wr, Fr.drew, a9, a73, a74, hii, hii', hia2, y1, hwi, -st5, -Int.natCast_add]
          exact ⟨C.length - (i + 1), by omega, i + 1, rfl, by omega, hf10.trans y2 (fun k hk => .inl hk), fun _ => ⟨b1, b6, y3, by rw [y4]; exact b5⟩, by simp [put_get, a5], by simp [put_get, a6], by simp [put_get, a9], by simp [put_get, a21], by simp [put_get, a22], by simp [put_get, a23], by simp [put_get, a73], by simp [put_get]⟩
        · have hie : i = C.length := by omega
          subst hie
          have hfd := hf10.drew
          have hvv : ∀ k, v'.ownBlock = some k → k ∉ [zb] := fun k hk hk2 => by
            have := (own_lt hown7 k hk).2
            simp only [List.mem_singleton] at hk2
            omega
          have hrv : RdV (drew w10) v' C.length (bs C) := ((own_rd hown7).fr0 (f9.trans0 f10)).fr hfd hvv
          have cv2 : pConv P 40 9 v' (drew w10) = some (strB C, drew w10) := conv_str sliceE40 intK5 und9 hrv
          have hw10 : IsW (drew w10) (sz w2) C F2 := ((hw7.fr0 f9).fr0 f10).fr hfd (fun k hk hk2 => by
            have := hF7 k hk
            simp only [List.mem_singleton] at hk2
            omega)
          try simp (maxDischargeDepth := 8) [↓bindV_some, ↓bindU_some, ↓condE_true, ↓condE_false, ↓pickE_true, ↓pickE_false, ↓pickE_or, ↓pickE_and, ↓grdE_true, ↓grdE_false, ↓grdE_tf, ↓grdE_ft, ↓grdE_undef, ↓nilE_pt, ↓thenK_normal, ↓thenK_exit, ↓thenK_ret, ↓thenK_goto, ↓thenK_panic, ↓blockK_exit, ↓blockK_normal, ↓blockK_ret, ↓blockK_goto, ↓blockK_panic, ↓loopK_normal, ↓loopK_exit, ↓loopK_ret, ↓loopK_goto, ↓loopK_panic, ↓topK_ret, ↓topK_normal, ↓topK_panic, ↓resVs_nil, ↓resVs_tmp, ↓resVs_cell, tup_one, tup_nil, tup_two, put_get, argE_get, ↓takeE_def, ↓heldE_nil, ↓heldE_cons, qNil_pt, qPick_bool, qGrd_bool, qGrd_undef, ↓letK_def, pBox_eq, pBin_add, pBin_sub, pBin_mul, pBin_eql, pBin_neq, pBin_lss, pBin_leq, pBin_gtr, pBin_geq, pUn_not, pUn_neg, eqB, neB, eqS, neS, pExtract0, pExtract1, pExtract2, max_int, min_int, sz_nw, sz_wr, sz_drew, mm_nw, fz_nw, mm_drew, fz_drew, fz_wr, sz_mkS, mm_mkS, fz_mkS, Fr.mkS, mm_wr_same, mm_wr_ne, wr_wr, bs_oneT, splice_full, gt_zero, gt_succ, gt_set, gt_bs, byte_eq0, byte_eq1, byte_n0, byte_n1, Fr.refl, Fr.nw, Fr.wr, Fr.drew, a9, a73, a74, a5, a6, cv2]
          refine (wBytes_spec hw10 (by omega)).call ?_
          rintro uv w11 ⟨hu11, f11⟩
          have cv3 : pConv P 40 9 v' w11 = some (strB C, w11) := conv_str sliceE40 intK5 und9 (hrv.fr0 f11)
          have cu : pConv P 40 9 uv w11 = some (strB C, w11) := conv_str sliceE40 intK5 und9 (own_rd hu11)
          try simp (maxDischargeDepth := 8) [↓bindV_some, ↓bindU_some, ↓condE_true, ↓condE_false, ↓pickE_true, ↓pickE_false, ↓pickE_or, ↓pickE_and, ↓grdE_true, ↓grdE_false, ↓grdE_tf, ↓grdE_ft, ↓grdE_undef, ↓nilE_pt, ↓thenK_normal, ↓thenK_exit, ↓thenK_ret, ↓thenK_goto, ↓thenK_panic, ↓blockK_exit, ↓blockK_normal, ↓blockK_ret, ↓blockK_goto, ↓blockK_panic, ↓loopK_normal, ↓loopK_exit, ↓loopK_ret, ↓loopK_goto, ↓loopK_panic, ↓topK_ret, ↓topK_normal, ↓topK_panic, ↓resVs_nil, ↓resVs_tmp, ↓resVs_cell, tup_one, tup_nil, tup_two, put_get, argE_get, ↓takeE_def, ↓heldE_nil, ↓heldE_cons, qNil_pt, qPick_bool, qGrd_bool, qGrd_undef, ↓letK_def, pBox_eq, pBin_add, pBin_sub, pBin_mul, pBin_eql, pBin_neq, pBin_lss, pBin_leq, pBin_gtr, pBin_geq, pUn_not, pUn_neg, eqB, neB, eqS, neS, pExtract0, pExtract1, pExtract2, max_int, min_int, sz_nw, sz_wr, sz_drew, mm_nw, fz_nw, mm_drew, fz_drew, fz_wr, sz_mkS, mm_mkS, fz_mkS, Fr.mkS, mm_wr_same, mm_wr_ne, wr_wr, bs_oneT, splice_full, gt_zero, gt_succ, gt_set, gt_bs, byte_eq0, byte_eq1, byte_n0, byte_n1, Fr.refl, Fr.nw, Fr.wr, Fr.drew, cv3, cu, hnq, a23, hwj, -Int.natCast_add]
          have hO11 : Own w2 w11 F2 := ⟨(((hO7.fr.trans0 f9).trans0 f10).trans hfd (fun k hk => .inr (by simp only [List.mem_singleton] at hk; have := hO7.fr.size; omega))).trans0 f11, hO7.own⟩
          exact ⟨L.length - (j + 1), by omega, j + 1, F2, v', rfl, by omega, by rw [← hC]; exact hw10.fr0 f11, hO11, by rw [← hC]; exact own_fr (own_fr (own_fr hown7 (f9.trans0 f10) (by simp)) hfd hvv) f11 (by simp), hne7, by simp [put_get, a5], by simp [put_get, a6], by simp [put_get, a21], by simp [put_get, a22], by simp [put_get]⟩
    · have hje : j = L.length := by omega
      subst hje
      rw [List.take_length] at hw hown
      obtain ⟨oa, oc, hova⟩ := own_val hown
      have hlo : ∀ w, pBuiltin P .len #[40] 3 [ov] w = some (i64 (encAll L).length, w) := fun w => by rw [hova]; exact len40
      try simp (maxDischargeDepth := 8) [↓bindV_some, ↓bindU_some, ↓condE_true, ↓condE_false, ↓pickE_true, ↓pickE_false, ↓pickE_or, ↓pickE_and, ↓grdE_true, ↓grdE_false, ↓grdE_tf, ↓grdE_ft, ↓grdE_undef, ↓nilE_pt, ↓thenK_normal, ↓thenK_exit, ↓thenK_ret, ↓thenK_goto, ↓thenK_panic, ↓blockK_exit, ↓blockK_normal, ↓blockK_ret, ↓blockK_goto, ↓blockK_panic, ↓loopK_normal, ↓loopK_exit, ↓loopK_ret, ↓loopK_goto, ↓loopK_panic, ↓topK_ret, ↓topK_normal, ↓topK_panic, ↓resVs_nil, ↓resVs_tmp, ↓resVs_cell, tup_one, tup_nil, tup_two, put_get, argE_get, ↓takeE_def, ↓heldE_nil, ↓heldE_cons, qNil_pt, qPick_bool, qGrd_bool, qGrd_undef, ↓letK_def, pBox_eq, pBin_add, pBin_sub, pBin_mul, pBin_eql, pBin_neq, pBin_lss, pBin_leq, pBin_gtr, pBin_geq, pUn_not, pUn_neg, eqB, neB, eqS, neS, pExtract0, pExtract1, pExtract2, max_int, min_int, sz_nw, sz_wr, sz_drew, mm_nw, fz_nw, mm_drew, fz_drew, fz_wr, sz_mkS, mm_mkS, fz_mkS, Fr.mkS, mm_wr_same, mm_wr_ne, wr_wr, bs_oneT, splice_full, gt_zero, gt_succ, gt_set, gt_bs, byte_eq0, byte_eq1, byte_n0, byte_n1, Fr.refl, Fr.nw, Fr.wr, Fr.drew, letK_def, e21, e22, e23, e5, e6]
      refine (wLen_spec hw).call ?_
      rintro _ w4 ⟨rfl, f4⟩
      try simp (maxDischargeDepth := 8) [↓bindV_some, ↓bindU_some, ↓condE_true, ↓condE_false, ↓pickE_true, ↓pickE_false, ↓pickE_or, ↓pickE_and, ↓grdE_true, ↓grdE_false, ↓grdE_tf, ↓grdE_ft, ↓grdE_undef, ↓nilE_pt, ↓thenK_normal, ↓thenK_exit, ↓thenK_ret, ↓thenK_goto, ↓thenK_panic, ↓blockK_exit, ↓blockK_normal, ↓blockK_ret, ↓blockK_goto, ↓blockK_panic, ↓loopK_normal, ↓loopK_exit, ↓loopK_ret, ↓loopK_goto, ↓loopK_panic, ↓topK_ret, ↓topK_normal, ↓topK_panic, ↓resVs_nil, ↓resVs_tmp, ↓resVs_cell, tup_one, tup_nil, tup_two, put_get, argE_get, ↓takeE_def, ↓heldE_nil, ↓heldE_cons, qNil_pt, qPick_bool, qGrd_bool, qGrd_undef, ↓letK_def, pBox_eq, pBin_add, pBin_sub, pBin_mul, pBin_eql, pBin_neq, pBin_lss, pBin_leq, pBin_gtr, pBin_geq, pUn_not, pUn_neg, eqB, neB, eqS, neS, pExtract0, pExtract1, pExtract2, max_int, min_int, sz_nw, sz_wr, sz_drew, mm_nw, fz_nw, mm_drew, fz_drew, fz_wr, sz_mkS, mm_mkS, fz_mkS, Fr.mkS, mm_wr_same, mm_wr_ne, wr_wr, bs_oneT, splice_full, gt_zero, gt_succ, gt_set, gt_bs, byte_eq0, byte_eq1, byte_n0, byte_n1, Fr.refl, Fr.nw, Fr.wr, Fr.drew, e6, hlo]
      exact (g2.trans0 hO.fr).trans0 f4
end Go.Proofs.Ytfmcplkijjndlaa
