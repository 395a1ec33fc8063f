/- The document's disk: Crash, byte by byte. -/
import Derived.Test.YticncfkpfpkfoaaRef17c
set_option linter.unusedVariables false
set_option linter.unusedSimpArgs false
namespace Go.Proofs.Yticncfkpfpkfoaa
open Go

theorem flat_set1 : ∀ {L : List (List UInt8)} {a k : Nat} {x : UInt8} {r : List UInt8}, (∀ s ∈ L, s.length = 64) → L[a]? = some r → k < 64 → (flat bs L).set (a * 64 + k) (bv x) = flat bs (L.set a (r.set k x)) := by
  intro L
  induction L with
  | nil => intro a k x r _ h; simp at h
  | cons s L ih =>
    intro a k x r hl h hk
    have hs := hl s (by simp)
    have hc : ∀ (t : List UInt8) (M : List (List UInt8)), flat bs (t :: M) = bs t ++ flat bs M := fun t M => by simp [flat]
    cases a with
    | zero =>
      simp only [List.getElem?_cons_zero, Option.some.injEq] at h
      subst h
      rw [List.set_cons_zero, hc, hc, Nat.zero_mul, Nat.zero_add, List.set_append_left _ _ (by simp [hs, hk]), bs_set]
    | succ a =>
      rw [List.set_cons_succ, hc, hc, ← ih (fun t ht => hl t (by simp [ht])) (by simpa using h) hk, List.set_append_right _ _ (by simp [hs]; omega)]
      congr 2
      simp [hs]; omega
theorem tear_step {old new : List UInt8} {k : Nat} (h1 : old.length = 64) (h2 : new.length = 64) (hk : k < 64) : (tear old new k).set k (gb new k) = tear old new (k + 1) := by
  refine gb_ext (by rw [List.length_set, tear_length h1 h2, tear_length h1 h2]) fun i hi => ?_
  rw [List.length_set, tear_length h1 h2] at hi
  rw [gb_set (by rw [tear_length h1 h2]; exact hk), gb_tear h2 h1 hi, gb_tear h2 h1 hi]
  by_cases hik : i = k
  · subst hik; simp
  · by_cases hlt : i < k
    · have : i < k + 1 := by omega
      simp [hik, hlt, this]
    · have : ¬ i < k + 1 := by omega
      simp [hik, hlt, this]
theorem atL_flat (D : DD) : atL D = flat (fun p : Int × List UInt8 => [i64 p.1]) D.pend := by
  unfold atL flat
  induction D.pend with
  | nil => rfl
  | cons p L ih => simp [ih]

def RInI (w : World) (b fb : Nat) (kv : Value) (G : List (List UInt8)) (a i c : Nat) (old new : List UInt8) (m : Nat) (e : Env) (w' : World) : Prop :=
  ∃ k, m = 64 - k ∧ k ≤ 64 ∧ Fr [fb] w w' ∧ mm w' fb = flat bs (G.set a (tear old new (min k c))) ∧ fz w' fb = false ∧ e 5 = i64 k ∧ e 4 = i64 i ∧ e 0 = pt b 0 ∧ e 1 = kv

theorem rin_step {w : World} {b : Nat} {D : DD} {kept : List Int} {kv : Value} {fb nb : Nat} {av wv : Value} (hw : WfD D)
    (h1 : mm w b = [sl fb 0 D.firm.length D.firm.length, sl nb 0 D.firm.length D.firm.length, av, wv, i64 D.left, .bool D.down, i64 D.writes])
    (h7 : w.ownsRow 0 3 1 av D.pend.length (atL D)) (h8 : w.ownsRow 0 25 64 wv D.pend.length (flat bs (whL D))) (hb : b < sz w) (n1 : b ≠ fb) (hfb : fb < sz w)
    (nav : ∀ k, av.ownBlock = some k → k ≠ fb) (nwv : ∀ k, wv.ownBlock = some k → k ≠ fb)
    (hk : RdV w kv kept.length (kept.map (Value.int .i64))) (hkF : ∀ k, kv.ownBlock = some k → k = fb → kept.length = 0)
    {G : List (List UInt8)} (hG : ∀ s ∈ G, s.length = 64) (hGl : G.length = D.firm.length) {i : Nat} {p : Int × List UInt8} (hp : D.pend[i]? = some p) {old : List UInt8} (hold : G[p.1.toNat]? = some old)
    {k : Nat} {e : Env} {w' : World} (hk64 : k < 64) (hI : RInI w b fb kv G p.1.toNat i (clampN kept i) old p.2 (64 - k) e w') {K : KT}
    (hK : ∀ e' w'', RInI w b fb kv G p.1.toNat i (clampN kept i) old p.2 (64 - (k + 1)) e' w'' → K .normal e' w'') : F70B1 e w' K := by
  obtain ⟨k', hm, hk', hf, hmf, hzf, e5, e4, e0, e1⟩ := hI
  have : k' = k := by omega
  subst this
  unfold F70B1
  obtain ⟨hpl, hp0, hp1⟩ := hw.pend p (List.mem_of_getElem? hp)
  have hilt := (List.getElem?_eq_some_iff.1 hp).1
  have hmany := hw.many
  have hbn : b ∉ [fb] := by simpa using n1
  have hmb : mm w' b = [sl fb 0 D.firm.length D.firm.length, sl nb 0 D.firm.length D.firm.length, av, wv, i64 D.left, .bool D.down, i64 D.writes] := by rw [hf.mm hb hbn, h1]
  have hol : old.length = 64 := hG old (List.mem_of_getElem? hold)
  have hki : (k' : Int) < 64 := by omega
  have hwk : IntKind.i64.wrap ((k' : Int) + 1) = ((k' + 1 : Nat) : Int) := wrap64 (by omega) (by omega)
  have hkr : RdV w' kv kept.length (kept.map (Value.int .i64)) := by
    by_cases h00 : kept.length = 0
    · have hkn : kept.map (Value.int .i64) = [] := by rw [List.eq_nil_of_length_eq_zero h00]; rfl
      rcases hk with ⟨a, c, rfl, hz, _⟩ | ⟨b, o, c, rfl, _⟩
      · exact .inl ⟨a, c, rfl, h00, hkn⟩
      · exact .inl ⟨_, c, by rw [h00], h00, hkn⟩
    · exact hk.fr hf fun k hkk => by simp; intro e; exact h00 (hkF _ hkk e)
  obtain ⟨ka, kc, hkv⟩ := sl_of hkr
  have same : ∀ {c : Nat}, c ≤ k' → tear old p.2 (min k' c) = tear old p.2 (min (k' + 1) c) := fun {c} h => by rw [Nat.min_eq_right h, Nat.min_eq_right (by omega)]
  have fin : ∀ e', clampN kept i ≤ k' → e' 5 = i64 ((k' + 1 : Nat) : Int) → e' 4 = i64 i → e' 0 = pt b 0 → e' 1 = kv → K .normal e' w' := fun e' hc a1 a2 a3 a4 =>
    hK _ _ ⟨k' + 1, rfl, by omega, hf, by rw [hmf, same hc], hzf, a1, a2, a3, a4⟩
  by_cases hik : i < kept.length
  · have hx : ∃ kb ko, ka = some ⟨kb, ko, none⟩ ∧ kb < sz w' ∧ ko + i < (mm w' kb).length ∧ gt (mm w' kb) (ko + i) = i64 (kept.getD i 0) := by
      rcases hkr with ⟨_, _, _, h0, _⟩ | ⟨kb, ko, kc', hkv', k1, k2, k3, k4, k5⟩
      · omega
      · rw [hkv] at hkv'
        simp only [Value.slice.injEq] at hkv'
        obtain ⟨rfl, _, rfl⟩ := hkv'
        have hr : RdV w' (sl kb ko kept.length kc) kept.length (kept.map (Value.int .i64)) := .inr ⟨kb, ko, kc, rfl, k1, k2, k3, k4, k5⟩
        have hcell := hr.cell (j := i) (by simpa using hik)
        refine ⟨kb, ko, rfl, k3, hcell.1, ?_⟩
        unfold gt
        rw [hcell.2]
        simp [hik]
    obtain ⟨kb, ko, rfl, hk3, hk4, hk5⟩ := hx
    have hcl : (clampN kept i : Int) = min (max (kept.getD i 0) 0) 64 := by unfold clampN; rw [if_pos hik]; omega
    generalize kept.getD i 0 = q at *
    have hii : (i : Int) < kept.length := by omega
    by_cases hq : (k' : Int) < q
    · obtain ⟨ag, ac, hav, hob, ag1, ag2, amc, ain, atk, agt⟩ := own_at (f := fun p : Int × List UInt8 => [i64 p.1]) (n := 1) (by rw [← atL_flat]; exact own_fr h7 hf (fun k hk => by simp; exact nav k hk)) (fun _ _ => rfl) rfl hp (by omega)
      obtain ⟨wg, wc, hwv, hob2, wg1, wg2, wmc, win, wtk, wgt⟩ := own_at (f := bs) (n := 64) (own_fr h8 hf (fun k hk => by simp; exact nwv k hk)) (fun x hx => by
        obtain ⟨r, hr, rfl⟩ := List.mem_map.1 hx
        simp [(hw.pend r hr).1]) (by simp [whL]) (j := i) (x := p.2) (by simp [whL, hp]) (by omega)
      have ga : gt (mm w' ag) i = i64 p.1 := by have := agt 0 (by omega); rw [Nat.mul_one, Nat.add_zero] at this; exact this
      have gw : gt (mm w' wg) (i * 64 + k') = bv (gb p.2 k') := by rw [wgt k' hk64, gt_bs (by omega)]
      have hset : (flat bs (G.set p.1.toNat (tear old p.2 k'))).set (p.1.toNat * 64 + k') (bv (gb p.2 k')) = flat bs (G.set p.1.toNat (tear old p.2 (k' + 1))) := by
        have hGs : ∀ s ∈ G.set p.1.toNat (tear old p.2 k'), s.length = 64 := fun s hs => by
          rcases List.mem_or_eq_of_mem_set hs with h | h
          · exact hG s h
          · rw [h]; exact tear_length hol hpl
        rw [flat_set1 hGs (r := tear old p.2 k') (by rw [List.getElem?_set, if_pos rfl, if_pos (by omega)]) hk64, List.set_set, tear_step hol hpl hk64]
      have hmk : min k' (clampN kept i) = k' := by omega
      have hmk1 : min (k' + 1) (clampN kept i) = k' + 1 := by omega
      rw [hmk] at hmf
      have hfl : (flat bs (G.set p.1.toNat (tear old p.2 k'))).length = D.firm.length * 64 := by
        rw [flat_length (n := 64) (fun s hs => by
          rcases List.mem_or_eq_of_mem_set hs with h | h
          · simp [hG s h]
          · rw [h, bs_length]; exact tear_length hol hpl), List.length_set, hGl]
      have h64 : p.1.toNat * 64 + k' < D.firm.length * 64 := by
        have := Nat.mul_le_mul_right 64 (show p.1.toNat + 1 ≤ D.firm.length by omega)
        omega
      have hpi : (i : Int) < D.pend.length := by omega
      subst hav hwv
      have ain' : i < (mm w' ag).length := by omega
      have win' : i * 64 + k' < (mm w' wg).length := by omega
      have i1 : ∀ w, pIndexAddr P 76 (sl fb 0 D.firm.length D.firm.length) (i64 p.1) w = some (pt fb (p.1.toNat * 64), w) := fun w => by rw [ia76 hp0 hp1, Nat.zero_add]
      try simp (maxDischargeDepth := 8) [i1, ↓bindV_some, ↓bindU_some, ↓condE_true, ↓condE_false, ↓pickE_true, ↓pickE_false, ↓pickE_or, ↓pickE_and, ↓grdE_true, ↓grdE_false, ↓grdE_tf, ↓grdE_ft, ↓grdE_undef, ↓nilE_pt, ↓thenK_normal, ↓thenK_exit, ↓thenK_ret, ↓thenK_goto, ↓thenK_panic, ↓blockK_exit, ↓blockK_normal, ↓blockK_ret, ↓blockK_goto, ↓blockK_panic, ↓loopK_normal, ↓loopK_exit, ↓loopK_ret, ↓loopK_goto, ↓loopK_panic, ↓topK_ret, ↓topK_normal, ↓topK_panic, ↓resVs_nil, ↓resVs_tmp, ↓resVs_cell, tup_one, tup_nil, tup_two, put_get, argE_get, ↓takeE_def, ↓heldE_nil, ↓heldE_cons, qNil_pt, qPick_bool, qGrd_bool, qGrd_undef, ↓letK_def, pBox_eq, pBin_add, pBin_sub, pBin_mul, pBin_eql, pBin_neq, pBin_lss, pBin_leq, pBin_gtr, pBin_geq, pUn_not, pUn_neg, eqB, neB, eqS, neS, pExtract0, pExtract1, pExtract2, max_int, min_int, -ia76, ia76, sz_nw, sz_wr, sz_drew, mm_nw, fz_nw, mm_drew, fz_drew, fz_wr, sz_mkS, mm_mkS, fz_mkS, Fr.mkS, mm_wr_same, mm_wr_ne, wr_wr, bs_oneT, splice_full, gt_zero, gt_succ, gt_set, gt_bs, byte_eq0, byte_eq1, byte_n0, byte_n1, Fr.refl, Fr.nw, Fr.wr, Fr.drew, hki, hk64, e5, e4, e0, e1, hkv, hik, hii, hk3, hk4, hk5, hq, hmb, hilt, hpi, ain', ga, win', gw, hmf, hzf, hfl, h64, hset, hwk, -Int.natCast_add]
      refine hK _ _ ⟨k' + 1, rfl, by omega, (hf.drew).wr (.inl (by simp)) _, ?_, ?_, by simp [put_get, e5, e4, e0, e1, hkv]⟩
      · rw [hmk1]; simp [sz_nw, sz_wr, sz_drew, mm_nw, fz_nw, mm_drew, fz_drew, fz_wr, sz_mkS, mm_mkS, fz_mkS, Fr.mkS, mm_wr_same, mm_wr_ne, wr_wr, bs_oneT, splice_full, gt_zero, gt_succ, gt_set, gt_bs, byte_eq0, byte_eq1, byte_n0, byte_n1, Fr.refl, Fr.nw, Fr.wr, Fr.drew, hzf]
      · simp [sz_nw, sz_wr, sz_drew, mm_nw, fz_nw, mm_drew, fz_drew, fz_wr, sz_mkS, mm_mkS, fz_mkS, Fr.mkS, mm_wr_same, mm_wr_ne, wr_wr, bs_oneT, splice_full, gt_zero, gt_succ, gt_set, gt_bs, byte_eq0, byte_eq1, byte_n0, byte_n1, Fr.refl, Fr.nw, Fr.wr, Fr.drew, hzf]
    · try simp (maxDischargeDepth := 8) [↓bindV_some, ↓bindU_some, ↓condE_true, ↓condE_false, ↓pickE_true, ↓pickE_false, ↓pickE_or, ↓pickE_and, ↓grdE_true, ↓grdE_false, ↓grdE_tf, ↓grdE_ft, ↓grdE_undef, ↓nilE_pt, ↓thenK_normal, ↓thenK_exit, ↓thenK_ret, ↓thenK_goto, ↓thenK_panic, ↓blockK_exit, ↓blockK_normal, ↓blockK_ret, ↓blockK_goto, ↓blockK_panic, ↓loopK_normal, ↓loopK_exit, ↓loopK_ret, ↓loopK_goto, ↓loopK_panic, ↓topK_ret, ↓topK_normal, ↓topK_panic, ↓resVs_nil, ↓resVs_tmp, ↓resVs_cell, tup_one, tup_nil, tup_two, put_get, argE_get, ↓takeE_def, ↓heldE_nil, ↓heldE_cons, qNil_pt, qPick_bool, qGrd_bool, qGrd_undef, ↓letK_def, pBox_eq, pBin_add, pBin_sub, pBin_mul, pBin_eql, pBin_neq, pBin_lss, pBin_leq, pBin_gtr, pBin_geq, pUn_not, pUn_neg, eqB, neB, eqS, neS, pExtract0, pExtract1, pExtract2, max_int, min_int, sz_nw, sz_wr, sz_drew, mm_nw, fz_nw, mm_drew, fz_drew, fz_wr, sz_mkS, mm_mkS, fz_mkS, Fr.mkS, mm_wr_same, mm_wr_ne, wr_wr, bs_oneT, splice_full, gt_zero, gt_succ, gt_set, gt_bs, byte_eq0, byte_eq1, byte_n0, byte_n1, Fr.refl, Fr.nw, Fr.wr, Fr.drew, hki, hk64, e5, e4, e0, e1, hkv, hik, hii, hk3, hk4, hk5, hq, hwk, -Int.natCast_add]
      refine fin _ (by omega) ?_ ?_ ?_ ?_ <;> simp [put_get, e5, e4, e0, e1, hkv]
  · have hc0 : clampN kept i = 0 := by unfold clampN; rw [if_neg hik]
    try simp (maxDischargeDepth := 8) [↓bindV_some, ↓bindU_some, ↓condE_true, ↓condE_false, ↓pickE_true, ↓pickE_false, ↓pickE_or, ↓pickE_and, ↓grdE_true, ↓grdE_false, ↓grdE_tf, ↓grdE_ft, ↓grdE_undef, ↓nilE_pt, ↓thenK_normal, ↓thenK_exit, ↓thenK_ret, ↓thenK_goto, ↓thenK_panic, ↓blockK_exit, ↓blockK_normal, ↓blockK_ret, ↓blockK_goto, ↓blockK_panic, ↓loopK_normal, ↓loopK_exit, ↓loopK_ret, ↓loopK_goto, ↓loopK_panic, ↓topK_ret, ↓topK_normal, ↓topK_panic, ↓resVs_nil, ↓resVs_tmp, ↓resVs_cell, tup_one, tup_nil, tup_two, put_get, argE_get, ↓takeE_def, ↓heldE_nil, ↓heldE_cons, qNil_pt, qPick_bool, qGrd_bool, qGrd_undef, ↓letK_def, pBox_eq, pBin_add, pBin_sub, pBin_mul, pBin_eql, pBin_neq, pBin_lss, pBin_leq, pBin_gtr, pBin_geq, pUn_not, pUn_neg, eqB, neB, eqS, neS, pExtract0, pExtract1, pExtract2, max_int, min_int, sz_nw, sz_wr, sz_drew, mm_nw, fz_nw, mm_drew, fz_drew, fz_wr, sz_mkS, mm_mkS, fz_mkS, Fr.mkS, mm_wr_same, mm_wr_ne, wr_wr, bs_oneT, splice_full, gt_zero, gt_succ, gt_set, gt_bs, byte_eq0, byte_eq1, byte_n0, byte_n1, Fr.refl, Fr.nw, Fr.wr, Fr.drew, hki, hk64, e5, e4, e0, e1, hkv, hik, hwk, -Int.natCast_add]
    refine fin _ (by omega) ?_ ?_ ?_ ?_ <;> simp [put_get, e5, e4, e0, e1, hkv]
end Go.Proofs.Yticncfkpfpkfoaa
