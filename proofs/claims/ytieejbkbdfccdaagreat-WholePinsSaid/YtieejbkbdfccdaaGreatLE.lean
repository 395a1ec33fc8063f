/- WholePins: the law's walk, up to the disk. -/
import Derived.Test.YtieejbkbdfccdaaGreatLD
import Derived.Test.YtieejbkbdfccdaaGreatLC
import Derived.Test.YtieejbkbdfccdaaGreatKZ
import Derived.Test.YtieejbkbdfccdaaGreatKK
import Derived.Test.YtieejbkbdfccdaaGreatSim
set_option linter.unusedVariables false
set_option linter.unusedSimpArgs false
namespace Go.Proofs.YtieejbkbdfccdaaGreat
open Go
theorem RefS.fr0 {w w' : World} {x : Value} {room : Nat} {L : List PrP} (h : RefS w x room L) (hf : Fr [] w w') : RefS w' x room L := by
  obtain ⟨sa, sc, rfl, h1, h2⟩ := h
  exact ⟨sa, sc, rfl, h1.fr0 hf, fun p hp => ⟨(h2 p hp).1.fr0 hf, (h2 p hp).2⟩⟩
theorem ba43 {w : World} {a b c d : Int} : pBuild P 43 [(0, .agg #[i64 a, i64 b]), (1, .agg #[i64 c, i64 d])] w = some (.agg #[i64 a, i64 b, i64 c, i64 d], w) := by
  rw [pBuild_eq hasZero43 (fun p hp => ?_) (by kernel_rfl) (by rw [und43]; simp) (by rw [und43]; rintro n e ⟨⟩; exact tyOk42)]
  · simp [offP, und43, cellsOf42, splice, zeroL43, Value.cells]
  · simp only [List.mem_cons, List.not_mem_nil, or_false] at hp
    unfold partOk
    rw [und43, zeroL43]
    simp only [cellsOf42]
    rcases hp with rfl | rfl
    · exact ⟨rfl, by simp⟩
    · exact ⟨rfl, by simp⟩
/-- What a Begin that is not nil leaves. -/
structure BgT (w : World) (t : Tr) (v : Value) (rb : Nat) (L : List PrP) (sa : Option Addr) (sc : Nat) : Prop where
  isT : IsT w t v
  srt : SrtK t.ino
  key : KeyOk t.ino
  size : t.size ≤ 60
  rbl : rb < sz w
  mr : mm w rb = [.slice sa L.length sc, i64 60]
  ref : RefS w (.agg #[.slice sa L.length sc, i64 60]) 60 L
  map : L.map kr = t.ino
theorem BgT.fr0 {w w' : World} {t : Tr} {v : Value} {rb : Nat} {L : List PrP} {sa : Option Addr} {sc : Nat} (h : BgT w t v rb L sa sc) (hf : Fr [] w w') : BgT w' t v rb L sa sc :=
  ⟨h.isT.fr0 hf, h.srt, h.key, h.size, hf.lt h.rbl, by rw [hf.mm h.rbl (by simp), h.mr], h.ref.fr0 hf, h.map⟩
end Go.Proofs.YtieejbkbdfccdaaGreat

set_option linter.unusedVariables false
set_option linter.unusedSimpArgs false
namespace Go.Proofs.YtieejbkbdfccdaaGreat
open Go
set_option maxHeartbeats 16000000 in
set_option maxRecDepth 20000 in
theorem wholePins_law {w : World} {KA KB : List PrP} {pa pb ka : Option Addr} {pca pcb kc : Nat} {kept : List Int} {at_ : Int}
    (hA : RdV w (.slice pa KA.length pca) KA.length (flat prV KA)) (hoA : ∀ k ∈ KA, PrOk w k) (hB : RdV w (.slice pb KB.length pcb) KB.length (flat prV KB)) (hoB : ∀ k ∈ KB, PrOk w k)
    (hK : RdV w (.slice ka kept.length kc) kept.length (kept.map (Value.int .i64))) (hat : at_ < 9223372036854775808) :
    Ret P 3 #[.slice pa KA.length pca, .slice pb KB.length pcb, .agg #[i64 at_, .slice ka kept.length kc]] w fun x w' => x = .bool true ∧ Fr [] w w' := by
  refine F3ok ?_
  unfold F3
  have hc0 : (Value.agg #[i64 at_, .slice ka kept.length kc]).cells.toList = [i64 at_, .slice ka kept.length kc] := rfl
  obtain ⟨W1, hW1⟩ : ∃ W, W = nw w [i64 at_, .slice ka kept.length kc] 25 := ⟨_, rfl⟩
  have f1 : Fr [] w W1 := by rw [hW1]; exact (Fr.refl [] w).nw _ _
  have s1 : sz W1 = sz w + 1 := by rw [hW1, sz_nw]
  have m1 : mm W1 (sz w) = [i64 at_, .slice ka kept.length kc] := by rw [hW1, mm_nw, if_pos rfl]
  try simp (maxDischargeDepth := 8) [↓sC, sB, sM, hc0, ← hW1]
  refine (check_spec (p := ⟨1, 0, 0, 0, 0, 1⟩)).call ?_
  rintro _ w2 ⟨rfl, f2⟩
  rw [show (if okPin ⟨1, 0, 0, 0, 0, 1⟩ then (0 : Int) else 1) = 0 by decide]
  try simp (maxDischargeDepth := 8) [↓sC, sB, sM]
  refine (check_spec (p := zPin)).call ?_
  rintro _ w3 ⟨rfl, f3⟩
  rw [show (if okPin zPin then (0 : Int) else 1) = 1 by decide]
  try simp (maxDischargeDepth := 8) [↓sC, sB, sM]
  have g3 := (f1.trans0 f2).trans0 f3
  refine (begin_spec (hA.fr0 g3) (fun k hk => ⟨(hoA k hk).1.fr0 g3, (hoA k hk).2⟩)).call ?_
  rintro x w4 ⟨f4, hx⟩
  have g4 := g3.trans0 f4
  have hspl0 : ∀ v : Value, splice [Value.pointer none, i64 0] 0 [v, i64 60] = [v, i64 60] := fun _ => splice_full rfl
  rcases hx with ⟨sv, rfl, hsv⟩ | ⟨s, sv, rb1, L1, sa1, sc1, rfl, hT1, hs1, hk1, hn1, hrb1, hmr1, hRS1, hL1⟩
  · obtain ⟨W5, hW5⟩ : ∃ W, W = wr (nw w4 [.pointer none, i64 0] 32) (sz w4) [sv, i64 60] := ⟨_, rfl⟩
    have g5 : Fr [] w W5 := by rw [hW5]; exact (g4.nw _ _).wr (.inr g4.size) _
    try simp (maxDischargeDepth := 8) [↓sC, sB, sM, hsv, hspl0, ← hW5]
    refine (begin_spec (hB.fr0 g5) (fun k hk => ⟨(hoB k hk).1.fr0 g5, (hoB k hk).2⟩)).call ?_
    rintro x w6 ⟨f6, hx⟩
    have g6 := g5.trans0 f6
    rcases hx with ⟨tv, rfl, htv⟩ | ⟨t, tv, rb2, L2, sa2, sc2, rfl, hT2, _⟩
    · try simp (maxDischargeDepth := 8) [↓sC, sB, sM, htv, hspl0]
      exact (g6.nw _ _).wr (.inr g6.size) _
    · have htv := hT2.one
      try simp (maxDischargeDepth := 8) [↓sC, sB, sM, htv, hspl0]
      exact (g6.nw _ _).wr (.inr g6.size) _
  have hsv := hT1.one
  have B4 : BgT w4 s sv rb1 L1 sa1 sc1 := ⟨hT1, hs1, hk1, hn1, hrb1, hmr1, hRS1, hL1⟩
  obtain ⟨W5, hW5⟩ : ∃ W, W = wr (nw w4 [.pointer none, i64 0] 32) (sz w4) [sv, i64 60] := ⟨_, rfl⟩
  have f5 : Fr [] w4 W5 := by rw [hW5]; exact ((Fr.refl [] w4).nw _ _).wr (.inr (Nat.le_refl _)) _
  have g5 := g4.trans0 f5
  have m7 : mm W5 (sz w4) = [sv, i64 60] := by rw [hW5]; exact mm_wr_same (by rw [fz_nw, if_pos rfl]) _
  have s5 : sz W5 = sz w4 + 1 := by rw [hW5, sz_wr, sz_nw]
  try simp (maxDischargeDepth := 8) [↓sC, sB, sM, hsv, hspl0, ← hW5]
  refine (begin_spec (hB.fr0 g5) (fun k hk => ⟨(hoB k hk).1.fr0 g5, (hoB k hk).2⟩)).call ?_
  rintro x w6 ⟨f6, hx⟩
  have g6 := g5.trans0 f6
  rcases hx with ⟨tv, rfl, htv⟩ | ⟨t, tv, rb2, L2, sa2, sc2, rfl, hT2, hs2, hk2, hn2, hrb2, hmr2, hRS2, hL2⟩
  · try simp (maxDischargeDepth := 8) [↓sC, sB, sM, htv, hspl0]
    exact (g6.nw _ _).wr (.inr g6.size) _
  have htv := hT2.one
  have B6 : BgT w6 t tv rb2 L2 sa2 sc2 := ⟨hT2, hs2, hk2, hn2, hrb2, hmr2, hRS2, hL2⟩
  obtain ⟨W7, hW7⟩ : ∃ W, W = wr (nw w6 [.pointer none, i64 0] 32) (sz w6) [tv, i64 60] := ⟨_, rfl⟩
  have f7 : Fr [] w6 W7 := by rw [hW7]; exact ((Fr.refl [] w6).nw _ _).wr (.inr (Nat.le_refl _)) _
  have g7 := g6.trans0 f7
  have m9 : mm W7 (sz w6) = [tv, i64 60] := by rw [hW7]; exact mm_wr_same (by rw [fz_nw, if_pos rfl]) _
  have s7 : sz W7 = sz w6 + 1 := by rw [hW7, sz_wr, sz_nw]
  have f57 := f6.trans0 f7
  have BS : BgT W7 s sv rb1 L1 sa1 sc1 := B4.fr0 (f5.trans0 f57)
  have BT : BgT W7 t tv rb2 L2 sa2 sc2 := B6.fr0 f7
  have l5 := f57.size
  have l4 := (((f1.trans0 f2).trans0 f3).trans0 f4).size
  have n0 : mm W7 (sz w) = [i64 at_, .slice ka kept.length kc] := by rw [((((f2.trans0 f3).trans0 f4).trans0 f5).trans0 f57).mm (by omega) (by simp), m1]
  have n7 : mm W7 (sz w4) = [sv, i64 60] := by rw [f57.mm (by omega) (by simp), m7]
  have l14 := ((f2.trans0 f3).trans0 f4).size
  have z0 : sz w < sz W7 := by omega
  have z7 : sz w4 < sz W7 := by omega
  have z9 : sz w6 < sz W7 := by omega
  have ht2 : ∀ a b : Value, ([a, b] : List Value).take 2 = [a, b] := fun _ _ => rfl
  try simp (maxDischargeDepth := 8) [↓sC, sB, sM, htv, hspl0, ← hW7, n0, z0, ht2]
  refine (big6_spec).call ?_
  rintro _ w8 ⟨rfl, f8⟩
  have g8 := g7.trans0 f8
  by_cases hbig : 300 < kept.length
  · have hb1 : decide (300 < kept.length) = true := by simp [hbig]
    rw [hb1]
    try simp (maxDischargeDepth := 8) [↓sC, sB, sM]
    exact g8
  have hb1 : decide (300 < kept.length) = false := by simp; omega
  rw [hb1]
  have n78 : mm w8 (sz w4) = [sv, i64 60] := by rw [f8.mm z7 (by simp), n7]
  have n98 : mm w8 (sz w6) = [tv, i64 60] := by rw [f8.mm z9 (by simp), m9]
  have z78 := f8.lt z7
  have z98 := f8.lt z9
  try simp (maxDischargeDepth := 8) [↓sC, sB, sM, n78, z78, ht2]
  refine (need_spec (BS.isT.fr0 f8) hs1 hk1 hn1).call ?_
  rintro _ w9 ⟨rfl, f9⟩
  have g9 := g8.trans0 f9
  have n99 : mm w9 (sz w6) = [tv, i64 60] := by rw [f9.mm z98 (by simp), n98]
  have z99 := f9.lt z98
  by_cases hna : 2000 < total (entsB s)
  · have c1 : ((2000 : Int) < (total (entsB s) : Nat)) = True := eq_true (by omega)
    have c2 : (2000 < total (entsB s)) = True := eq_true hna
    try simp (maxDischargeDepth := 8) [↓sC, sB, sM, c1, c2]
    exact g9
  have c1 : ((2000 : Int) < (total (entsB s) : Nat)) = False := eq_false (by omega)
  have c2 : (2000 < total (entsB s)) = False := eq_false hna
  try simp (maxDischargeDepth := 8) [↓sC, sB, sM, c1, c2, n99, z99, ht2]
  refine (need_spec (BT.isT.fr0 (f8.trans0 f9)) hs2 hk2 hn2).call ?_
  rintro _ w10 ⟨rfl, f10⟩
  have g10 := g9.trans0 f10
  by_cases hnb : 2000 < total (entsB t)
  · have c3 : ((2000 : Int) < (total (entsB t) : Nat)) = True := eq_true (by omega)
    have c4 : (2000 < total (entsB t)) = True := eq_true hnb
    try simp (maxDischargeDepth := 8) [↓sC, sB, sM, c3, c4]
    exact g10
  have c3 : ((2000 : Int) < (total (entsB t) : Nat)) = False := eq_false (by omega)
  have c4 : (2000 < total (entsB t)) = False := eq_false hnb
  try simp (maxDischargeDepth := 8) [↓sC, sB, sM, c3, c4]
  refine (new_spec (n := 4002) (by omega) (by omega)).call ?_
  rintro _ w11 ⟨b, F, rfl, hd11, f11, hF11⟩
  have q10 : Fr [] W7 w10 := (f8.trans0 f9).trans0 f10
  have q11 : Fr [] W7 w11 := q10.trans0 f11
  have l10 := q10.size
  have l11 := f11.size
  have hFlt := hd11.ltF
  obtain ⟨W12, hW12⟩ : ∃ W, W = wr (nw w11 [i64 0, i64 0, i64 0, i64 0] 43) (sz w11) [i64 2, i64 2000, i64 2002, i64 2000] := ⟨_, rfl⟩
  have f12 : Fr [] w11 W12 := by rw [hW12]; exact ((Fr.refl [] w11).nw _ _).wr (.inr (Nat.le_refl _)) _
  have s12 : sz W12 = sz w11 + 1 := by rw [hW12, sz_wr, sz_nw]
  have m43 : mm W12 (sz w11) = [i64 2, i64 2000, i64 2002, i64 2000] := by rw [hW12]; exact mm_wr_same (by rw [fz_nw, if_pos rfl]) _
  have hsp43 : splice [i64 0, i64 0, i64 0, i64 0] 0 [i64 2, i64 2000, i64 2002, i64 2000] = [i64 2, i64 2000, i64 2002, i64 2000] := splice_full rfl
  have q12 : Fr [] W7 W12 := q11.trans0 f12
  have n7c : mm W12 (sz w4) = [sv, i64 60] := by rw [q12.mm z7 (by simp), n7]
  have z7c : sz w4 < sz W12 := q12.lt z7
  try simp (maxDischargeDepth := 8) [↓sC, sB, sM, ba43, hsp43, ← hW12, m43, s12, n7c, z7c, ht2]
  have hF12 : ∀ k ∈ F, sz W7 ≤ k := fun k hk => by have := hF11 k hk; omega
  have hnF : ∀ k, k < sz w10 → k ∉ F := fun k hk hm => by have := hF11 k hm; omega
  have u0 : UpN 4002 (newD 4002) := ⟨rfl, by simp [newD], by simp [newD]⟩
  have sv1 := save_spec (fr := 2) (w0 := W7) BS.isT hs1 hk1 hn1 (by omega) (by omega) hF12 q12 (hd11.fr0 f12) u0 rfl (fun i hi => view_new (by omega)) (by show (0 : Int) + 5000 < _; omega)
  unfold ar at sv1
  refine sv1.call ?_
  rintro x w13 ⟨D1, F1, c, n, rfl, hd13, hg13, hok, hbad⟩
  have hc0 : c = 0 := Decidable.byContradiction fun h => (hbad h).2 rfl
  subst hc0
  obtain ⟨rfl, ho1⟩ := hok rfl
  have hcalm : CalmN 4002 D1 := ⟨ho1.up.down, ho1.calm rfl, ho1.up.len, ho1.up.pend⟩
  have hD0w : (newD 4002).writes = 0 := rfl
  have hw1 := ho1.wr
  try simp (maxDischargeDepth := 8) [↓sC, sB, sM]
  refine (put_ok (p := P1 s.size) (k := 1) hd13 hcalm ho1.pend (by omega) (P1_ok hn1) rfl (by omega)).call ?_
  rintro _ w14 ⟨rfl, D2, F2, hd14, hg14, hc2, hp2, hv2, hw2⟩
  have G14 : Grow F W12 F2 w14 := hg13.step hg14.fr hg14.new
  have keep : ∀ {F' : List Nat} {w' : World}, Grow F W12 F' w' → ∀ k, k < sz W7 → k ∉ F := fun _ k hk => hnF k (by omega)
  have a0 : mm w14 (sz w) = [i64 at_, .slice ka kept.length kc] := by rw [G14.fr.mm (by omega) (hnF _ (by omega)), q12.mm z0 (by simp), n0]
  have za : sz w < sz w14 := by have := G14.fr.size; omega
  try simp (maxDischargeDepth := 8) [↓sC, sB, sM, a0, za]
  refine (break_spec (n := at_) hd14 hat).call ?_
  rintro v15 w15 ⟨hd15, f15⟩
  have G15 := G14.same f15
  obtain ⟨D3, hD3⟩ : ∃ D3, D3 = breakD D2 at_ := ⟨_, rfl⟩
  rw [← hD3] at hd15
  have u3 : UpN 4002 D3 := by rw [hD3]; exact ⟨hc2.down, hc2.len, hc2.pend⟩
  have p3 : D3.pend = [] := by rw [hD3]; exact hp2
  have v3 : ∀ i, view D3 i = if i = 1 then sealOf (pinB (P1 s.size)) else view D1 i := fun i => by rw [← hv2 i, hD3]; rfl
  have wr3 : D3.writes = D2.writes := by rw [hD3]; rfl
  have st3 : St1 D3 s := by
    refine ⟨u3, p3, ?_, ?_, ?_, ?_, by omega⟩
    · rw [v3, if_neg (by omega), ho1.off 0 (by omega)]; exact view_new (by omega)
    · rw [v3, if_pos rfl]
    · exact ho1.laid.congr' fun i h1 h2 => by rw [v3, if_neg (by omega)]
    · intro i hi
      rw [v3, if_neg (by omega), ho1.off _ (by omega)]; exact view_new (by omega)
  have b43 : mm w15 (sz w11) = [i64 2, i64 2000, i64 2002, i64 2000] := by rw [G15.fr.mm (by omega) (fun hm => by have := hFlt _ hm; omega), m43]
  have z43 : sz w11 < sz w15 := by have := G15.fr.size; omega
  have b9 : mm w15 (sz w6) = [tv, i64 60] := by rw [G15.fr.mm (by omega) (hnF _ (by omega)), q12.mm z9 (by simp), m9]
  have zb9 : sz w6 < sz w15 := by omega
  have q15 : Fr [] W7 w15 := q12.trans G15.fr (fun k hk => .inr (hF12 k hk))
  try simp (maxDischargeDepth := 8) [↓sC, sB, sM, b43, z43, b9, zb9, ht2]
  have hF2 : ∀ k ∈ F2, sz W7 ≤ k := fun k hk => (G15.new k hk).elim (hF12 k) (fun h => by omega)
  have sv2 := save_spec (fr := 2002) (w0 := W7) BT.isT hs2 hk2 hn2 (by omega) (by omega) hF2 q15 hd15 u3 p3 st3.blank (by omega)
  unfold ar at sv2
  refine sv2.call ?_
  rintro x w16 ⟨D4, F4, c, n, rfl, hd16, hg16, hok, hbad⟩
  have G16 : Grow F W12 F4 w16 := G15.step hg16.fr hg16.new
  have hes : ∀ e ∈ entsB s, e.length ≤ 3840 := entsB_ok BS.isT hk1
  have het : ∀ e ∈ entsB t, e.length ≤ 3840 := entsB_ok BT.isT hk2
  have l43 : ([i64 2, i64 2000, i64 2002, i64 2000] : List Value).length = 4 := rfl
  try simp (maxDischargeDepth := 8) [↓sC, sB, sM]
  refine condE_join (fun e' w' => ∃ (D5 : DD) (F5 : List Nat) (f : Int), IsD w' b D5 F5 ∧ Grow F W12 F5 w' ∧ (∀ kept, Fin s t f (crashD D5 kept)) ∧ e' 11 = pt b 0 ∧ e' 5 = pt (sz w) 0 ∧ e' 17 = i64 f ∧ e' 13 = pt (sz w11) 0 ∧ e' 8 = pt rb1 0 ∧ e' 10 = pt rb2 0) ?_ ?_ ?_
  · intro hc K' hK'
    have hc0 : c = 0 := by simpa using hc
    subst hc0
    obtain ⟨rfl, ho2⟩ := hok rfl
    have hw4 := ho2.wr
    try simp (maxDischargeDepth := 8) [↓sC, sB, sM]
    refine (pinPut_spec (p := P2 t.size) hd16 (by rw [ho2.pend]; simp) (by omega)).call ?_
    rintro _ w17 ⟨rfl, F5, hd17, hg17⟩
    try simp (maxDischargeDepth := 8) [↓sC, sB, sM]
    refine hK' _ _ ⟨(putM (P2 t.size) D4).1, F5, (putM (P2 t.size) D4).2, hd17, G16.step hg17.fr hg17.new, fun kept => fin_ok kept st3 hn1 hn2 hes het ho2 rfl, ?_, ?_, ?_, ?_, ?_, ?_⟩
    all_goals simp [put_get, argE_get]
  · intro hc K' hK'
    have hc0 : c ≠ 0 := by simpa using hc
    try simp (maxDischargeDepth := 8) [↓sC, sB, sM]
    refine hK' _ _ ⟨D4, F4, c, hd16, G16, fun kept => fin_bad kept st3 hn1 hes (hbad hc0).1 hc0, ?_, ?_, ?_, ?_, ?_, ?_⟩
    all_goals simp [put_get, argE_get]
  rintro e' w17 ⟨D5, F5, f, hd17, G17, hfin, e11, e5, e17, e13, e8, e10⟩
  have q17 : Fr [] W7 w17 := q12.trans G17.fr (fun k hk => .inr (hF12 k hk))
  have q7w : Fr [] w W7 := g7
  have d0 : mm w17 (sz w) = [i64 at_, .slice ka kept.length kc] := by rw [q17.mm z0 (by simp), n0]
  have zd : sz w < sz w17 := q17.lt z0
  try simp (maxDischargeDepth := 8) [↓sC, sB, sM, e11, e5, d0, zd]
  have hkF : ∀ k, (Value.slice ka kept.length kc).ownBlock = some k → k ∈ F5 → kept.length = 0 := fun k hk hm => by
    rcases hK with ⟨_, _, _, h0, _⟩ | ⟨kb, ko, kc', hv, _, _, hlt, _⟩
    · exact h0
    · exfalso
      rw [hv] at hk
      have hkb : kb = k := by simpa [Value.ownBlock] using hk
      have h1 : sz W7 ≤ k := (G17.new k hm).elim (hF12 k) (fun h => by omega)
      omega
  refine (crash_spec hd17 (hK.fr0 (q7w.trans0 q17)) hkF).call ?_
  rintro v18 w18 ⟨hd18, f18⟩
  have G18 := G17.same f18
  obtain ⟨hdn, hlen, hcases⟩ := hfin kept
  have hrch : reachM (crashD D5 kept) = 0 := by unfold reachM; rw [if_neg (by simp [hdn]), if_neg (by rw [hlen]; omega)]
  try simp (maxDischargeDepth := 8) [↓sC, sB, sM]
  refine (get_spec hd18 hrch).call ?_
  rintro x w19 ⟨hG, f19⟩
  have G19 := G18.calm f19
  have hd19 := hd18.fr0 f19
  have q19 : Fr [] W7 w19 := q12.trans G19.fr (fun k hk => .inr (hF12 k hk))
  have fitA : fitsM (crashD D5 kept).firm.length ((2 : Nat) : Int) 2000 := ⟨by omega, by omega, by rw [hlen]; omega, by rw [hlen]; omega⟩
  have fitB : fitsM (crashD D5 kept).firm.length ((2002 : Nat) : Int) 2000 := ⟨by omega, by omega, by rw [hlen]; omega, by rw [hlen]; omega⟩
  have x43 : mm w19 (sz w11) = [i64 2, i64 2000, i64 2002, i64 2000] := by rw [G19.fr.mm (by omega) (fun hm => by have := hFlt _ hm; omega), m43]
  have y43 : sz w11 < sz w19 := by have := G19.fr.size; omega
  have hz29 : ∀ p : PinP, splice [i64 0, i64 0, i64 0, i64 0, i64 0, i64 0] 0 [i64 p.s, i64 p.l, i64 p.f, i64 p.c, i64 p.w, i64 p.r] = [i64 p.s, i64 p.l, i64 p.f, i64 p.c, i64 p.w, i64 p.r] := fun _ => splice_full rfl
  rcases hcases with ⟨hget, hf0, hscan⟩ | ⟨hget, hscan⟩
  · rw [hget] at hG
    rcases hG with ⟨p, hp, rfl⟩ | ⟨hp, _⟩
    · have hpp : p = P1 s.size := (Option.some.inj hp).symm
      subst hpp
      have hpv : pinV (P1 s.size) = .agg #[i64 1, i64 0, i64 0, i64 s.size, i64 0, i64 60] := rfl
      rw [hpv]
      have hspp : splice [i64 0, i64 0, i64 0, i64 0, i64 0, i64 0] 0 [i64 1, i64 0, i64 0, i64 s.size, i64 0, i64 60] = [i64 1, i64 0, i64 0, i64 s.size, i64 0, i64 60] := splice_full rfl
      obtain ⟨W20, hW20⟩ : ∃ W, W = wr (nw w19 [i64 0, i64 0, i64 0, i64 0, i64 0, i64 0] 29) (sz w19) [i64 1, i64 0, i64 0, i64 s.size, i64 0, i64 60] := ⟨_, rfl⟩
      have f20 : Fr [] w19 W20 := by rw [hW20]; exact ((Fr.refl [] w19).nw _ _).wr (.inr (Nat.le_refl _)) _
      have s20 : sz W20 = sz w19 + 1 := by rw [hW20, sz_wr, sz_nw]
      have m20 : mm W20 (sz w19) = [i64 1, i64 0, i64 0, i64 s.size, i64 0, i64 60] := by rw [hW20]; exact mm_wr_same (by rw [fz_nw, if_pos rfl]) _
      have q20 : Fr [] W7 W20 := q19.trans0 f20
      have z43b : mm W20 (sz w11) = [i64 2, i64 2000, i64 2002, i64 2000] := by rw [f20.mm y43 (by simp), x43]
      have y43b : sz w11 < sz W20 := by omega
      have l20 : sz w19 < sz W20 := by omega
      have hf1 : (f = 0) = False := eq_false hf0
      try simp (maxDischargeDepth := 8) [↓sC, sB, sM, hspp, ← hW20, m20, l20, e17, hf1]
      obtain ⟨W21, hW21⟩ : ∃ W, W = nw (drew W20) [.pointer none, i64 0] 32 := ⟨_, rfl⟩
      have fd : Fr [] W20 (drew W20) := (Fr.refl [] W20).drew
      have fd21 : Fr [] (drew W20) W21 := by rw [hW21]; exact (Fr.refl [] _).nw _ _
      have f21 : Fr [] W20 W21 := fd.trans0 fd21
      have s21 : sz W21 = sz W20 + 1 := by rw [hW21, sz_nw, sz_drew]
      have m21 : mm W21 (sz w19) = [i64 1, i64 0, i64 0, i64 s.size, i64 0, i64 60] := by rw [f21.mm l20 (by simp), m20]
      have m43d : mm W21 (sz w11) = [i64 2, i64 2000, i64 2002, i64 2000] := by rw [f21.mm y43b (by simp), z43b]
      have m21b : mm W21 (sz W20) = [.pointer none, i64 0] := by rw [hW21, mm_nw, if_pos (by rw [sz_drew])]
      have z21b : fz W21 (sz W20) = false := by rw [hW21, fz_nw, if_pos (by rw [sz_drew])]
      have l21 : sz w19 < sz W21 := by omega
      have l43d : sz w11 < sz W21 := by omega
      have hspl1 : ∀ v : Value, splice [Value.pointer none, i64 0] 0 [v, i64 60] = [v, i64 60] := fun _ => splice_full rfl
      have ls0 : ∀ {wx : World}, Fr [] w19 wx → Ret P 14 #[pt b 0, .agg #[i64 2, i64 2000], i64 s.size, i64 60] wx fun x w' => LoadR s.ino wx x w' := fun {wx} fx => by
        have ls := load_spec (fr := 2) (L := s.ino) (hd19.fr0 fx) hdn fitA BS.srt BS.key (BS.isT.okR) (by rw [Tr.size_ino]; exact BS.size) hscan
        unfold ar at ls
        rw [Tr.size_ino] at ls
        exact ls
      refine drawE_of (fun e2 w' => ∃ (u : Tr) (uv : Value) (k20 : Nat), e2 20 = pt k20 0 ∧ mm w' k20 = [uv, i64 60] ∧ k20 < sz w' ∧ IsT w' u uv ∧ u.ino = s.ino ∧ e2 21 = i64 0 ∧ Fr [] W20 w' ∧ e2 8 = pt rb1 0 ∧ e2 10 = pt rb2 0 ∧ e2 18 = pt (sz w19) 0) ?_ ?_
      · intro k1 kp hk1
        try simp (maxDischargeDepth := 8) [↓sC, sB, sM, e11, e13, e8, e10, m20, l20, z43b, y43b, ht2, ← hW21, m21, l21, m43d, l43d]
        refine ⟨?_, ?_⟩
        · refine (ls0 (f20.trans0 fd)).call ?_
          rintro x w21 ⟨u, uv, rfl, hTu, hino, fw21⟩
          have huv := hTu.one
          try simp (maxDischargeDepth := 8) [↓sC, sB, sM, huv, hspl1]
          refine hk1 _ _ ⟨u, uv, sz w21, ?_, ?_, ?_, ?_, hino, ?_, ?_, ?_, ?_, ?_⟩
          · simp [put_get]
          · simp [sM]
          · simp [sM]
          · exact hTu.fr0 (((Fr.refl [] w21).nw _ _).wr (.inr (Nat.le_refl _)) _)
          · simp [put_get]
          · exact ((fd.trans0 fw21).nw _ _).wr (.inr ((fd.trans0 fw21).size)) _
          all_goals simp [put_get, e8, e10]
        · refine (ls0 (f20.trans0 f21)).call ?_
          rintro x w21 ⟨u, uv, rfl, hTu, hino, fw21⟩
          have huv := hTu.one
          have b21 : Box w21 (sz W20) (.pointer none) (i64 0) := ⟨by rw [fw21.mm (by omega) (by simp), m21b], by rw [fw21.fz (by omega) (by simp), z21b], fun z => by simp⟩
          have c21 := b21.m
          have d21 := b21.z
          try simp (maxDischargeDepth := 8) [↓sC, sB, sM, huv, hspl1, c21, d21]
          refine hk1 _ _ ⟨u, uv, sz W20, ?_, ?_, ?_, ?_, hino, ?_, ?_, ?_, ?_, ?_⟩
          · simp [put_get]
          · exact mm_wr_same d21 _
          · rw [sz_wr]; have := fw21.size; omega
          · exact isT_wrB b21 hTu
          · simp [put_get]
          · exact (f21.trans0 fw21).wr (.inr (Nat.le_refl _)) _
          all_goals simp [put_get, e8, e10]
      rintro e2 w22 ⟨u, uv, k20, x20, xm20, xl20, hTu, hino, x21, f22, x8, x10, x18⟩
      have q22 := q20.trans0 f22
      have BS2 := BS.fr0 q22
      have BT2 := BT.fr0 q22
      have r1 := BS2.mr
      have r2 := BS2.rbl
      have t1 := BT2.mr
      have t2 := BT2.rbl
      have n1 : mm w22 (sz w19) = [i64 1, i64 0, i64 0, i64 s.size, i64 0, i64 60] := by rw [f22.mm l20 (by simp), m20]
      have n2 : sz w19 < sz w22 := f22.lt l20
      have hspl54 : ∀ (a : Option Addr) (l c : Nat), splice [Value.slice none 0 0, i64 0] 0 [.slice a l c, i64 60] = [.slice a l c, i64 60] := fun _ _ _ => splice_full rfl
      have hspl55 : ∀ (a a2 : Option Addr) (l c l2 c2 : Nat), splice [Value.slice a2 l2 c2, i64 60] 0 [.slice a l c, i64 60] = [.slice a l c, i64 60] := fun _ _ _ _ _ _ => splice_full rfl
      obtain ⟨W23, hW23⟩ : ∃ W, W = wr (nw w22 [Value.slice none 0 0, i64 0] 54) (sz w22) [.slice sa1 L1.length sc1, i64 60] := ⟨_, rfl⟩
      have f23 : Fr [] w22 W23 := by rw [hW23]; exact ((Fr.refl [] w22).nw _ _).wr (.inr (Nat.le_refl _)) _
      have s23 : sz W23 = sz w22 + 1 := by rw [hW23, sz_wr, sz_nw]
      have n3 : mm W23 (sz w19) = [i64 1, i64 0, i64 0, i64 s.size, i64 0, i64 60] := by rw [f23.mm n2 (by simp), n1]
      have n4 : sz w19 < sz W23 := by omega
      have m23 : mm W23 (sz w22) = [.slice sa1 L1.length sc1, i64 60] := by rw [hW23]; exact mm_wr_same (by rw [fz_nw, if_pos rfl]) _
      have z23 : fz W23 (sz w22) = false := by rw [hW23, fz_wr, fz_nw, if_pos rfl]
      have l23 : sz w22 < sz W23 := by omega
      have xm23 : mm W23 k20 = [uv, i64 60] := by rw [f23.mm xl20 (by simp), xm20]
      have xl23 : k20 < sz W23 := by omega
      have hTu23 := hTu.fr0 f23
      have BS3 := BS2.fr0 f23
      have BT3 := BT2.fr0 f23
      have r3 := BS3.mr
      have r4 := BS3.rbl
      have t3 := BT3.mr
      have t4 := BT3.rbl
      try simp (maxDischargeDepth := 8) [↓sC, sB, sM, x20, x21, x8, x10, x18, r1, r2, t1, t2, n1, n2, ht2, hspl54, ← hW23, n3, n4, m23, z23, l23, xm23, xl23]
      refine (is_spec hTu23 (by rw [hino]; exact BS.srt) (by rw [hino]; exact BS.key) (by rw [← Tr.size_ino, hino, Tr.size_ino]; exact BS.size) BS3.ref (by rw [hino]; exact BS.map)).call ?_
      rintro _ w25 ⟨rfl, f25⟩
      try simp (maxDischargeDepth := 8) [↓sC, sB, sM]
      exact (q7w.trans0 (q22.trans0 f23)).trans0 f25
    · cases hp
  · rcases Decidable.em (f = 0) with hf0 | hf0
    · rw [hget] at hG
      rcases hG with ⟨p, hp, rfl⟩ | ⟨hp, _⟩
      · have hpp : p = P2 t.size := (Option.some.inj hp).symm
        subst hpp
        have hpv : pinV (P2 t.size) = .agg #[i64 2, i64 0, i64 1, i64 t.size, i64 0, i64 60] := rfl
        rw [hpv]
        have hspp : splice [i64 0, i64 0, i64 0, i64 0, i64 0, i64 0] 0 [i64 2, i64 0, i64 1, i64 t.size, i64 0, i64 60] = [i64 2, i64 0, i64 1, i64 t.size, i64 0, i64 60] := splice_full rfl
        obtain ⟨W20, hW20⟩ : ∃ W, W = wr (nw w19 [i64 0, i64 0, i64 0, i64 0, i64 0, i64 0] 29) (sz w19) [i64 2, i64 0, i64 1, i64 t.size, i64 0, i64 60] := ⟨_, rfl⟩
        have f20 : Fr [] w19 W20 := by rw [hW20]; exact ((Fr.refl [] w19).nw _ _).wr (.inr (Nat.le_refl _)) _
        have s20 : sz W20 = sz w19 + 1 := by rw [hW20, sz_wr, sz_nw]
        have m20 : mm W20 (sz w19) = [i64 2, i64 0, i64 1, i64 t.size, i64 0, i64 60] := by rw [hW20]; exact mm_wr_same (by rw [fz_nw, if_pos rfl]) _
        have q20 : Fr [] W7 W20 := q19.trans0 f20
        have z43b : mm W20 (sz w11) = [i64 2, i64 2000, i64 2002, i64 2000] := by rw [f20.mm y43 (by simp), x43]
        have y43b : sz w11 < sz W20 := by omega
        have l20 : sz w19 < sz W20 := by omega
        have hf1 : (f = 0) = True := eq_true hf0
        try simp (maxDischargeDepth := 8) [↓sC, sB, sM, hspp, ← hW20, m20, l20, e17, hf1]
        obtain ⟨W21, hW21⟩ : ∃ W, W = nw (drew W20) [.pointer none, i64 0] 32 := ⟨_, rfl⟩
        have fd : Fr [] W20 (drew W20) := (Fr.refl [] W20).drew
        have fd21 : Fr [] (drew W20) W21 := by rw [hW21]; exact (Fr.refl [] _).nw _ _
        have f21 : Fr [] W20 W21 := fd.trans0 fd21
        have s21 : sz W21 = sz W20 + 1 := by rw [hW21, sz_nw, sz_drew]
        have m21 : mm W21 (sz w19) = [i64 2, i64 0, i64 1, i64 t.size, i64 0, i64 60] := by rw [f21.mm l20 (by simp), m20]
        have m43d : mm W21 (sz w11) = [i64 2, i64 2000, i64 2002, i64 2000] := by rw [f21.mm y43b (by simp), z43b]
        have m21b : mm W21 (sz W20) = [.pointer none, i64 0] := by rw [hW21, mm_nw, if_pos (by rw [sz_drew])]
        have z21b : fz W21 (sz W20) = false := by rw [hW21, fz_nw, if_pos (by rw [sz_drew])]
        have l21 : sz w19 < sz W21 := by omega
        have l43d : sz w11 < sz W21 := by omega
        have hspl1 : ∀ v : Value, splice [Value.pointer none, i64 0] 0 [v, i64 60] = [v, i64 60] := fun _ => splice_full rfl
        have ls0 : ∀ {wx : World}, Fr [] w19 wx → Ret P 14 #[pt b 0, .agg #[i64 2002, i64 2000], i64 t.size, i64 60] wx fun x w' => LoadR t.ino wx x w' := fun {wx} fx => by
          have ls := load_spec (fr := 2002) (L := t.ino) (hd19.fr0 fx) hdn fitB BT.srt BT.key (BT.isT.okR) (by rw [Tr.size_ino]; exact BT.size) hscan
          unfold ar at ls
          rw [Tr.size_ino] at ls
          exact ls
        refine drawE_of (fun e2 w' => ∃ (u : Tr) (uv : Value) (k20 : Nat), e2 20 = pt k20 0 ∧ mm w' k20 = [uv, i64 60] ∧ k20 < sz w' ∧ IsT w' u uv ∧ u.ino = t.ino ∧ e2 21 = i64 0 ∧ Fr [] W20 w' ∧ e2 8 = pt rb1 0 ∧ e2 10 = pt rb2 0 ∧ e2 18 = pt (sz w19) 0) ?_ ?_
        · intro k1 kp hk1
          try simp (maxDischargeDepth := 8) [↓sC, sB, sM, e11, e13, e8, e10, m20, l20, z43b, y43b, ht2, ← hW21, m21, l21, m43d, l43d]
          refine ⟨?_, ?_⟩
          · refine (ls0 (f20.trans0 fd)).call ?_
            rintro x w21 ⟨u, uv, rfl, hTu, hino, fw21⟩
            have huv := hTu.one
            try simp (maxDischargeDepth := 8) [↓sC, sB, sM, huv, hspl1]
            refine hk1 _ _ ⟨u, uv, sz w21, ?_, ?_, ?_, ?_, hino, ?_, ?_, ?_, ?_, ?_⟩
            · simp [put_get]
            · simp [sM]
            · simp [sM]
            · exact hTu.fr0 (((Fr.refl [] w21).nw _ _).wr (.inr (Nat.le_refl _)) _)
            · simp [put_get]
            · exact ((fd.trans0 fw21).nw _ _).wr (.inr ((fd.trans0 fw21).size)) _
            all_goals simp [put_get, e8, e10]
          · refine (ls0 (f20.trans0 f21)).call ?_
            rintro x w21 ⟨u, uv, rfl, hTu, hino, fw21⟩
            have huv := hTu.one
            have b21 : Box w21 (sz W20) (.pointer none) (i64 0) := ⟨by rw [fw21.mm (by omega) (by simp), m21b], by rw [fw21.fz (by omega) (by simp), z21b], fun z => by simp⟩
            have c21 := b21.m
            have d21 := b21.z
            try simp (maxDischargeDepth := 8) [↓sC, sB, sM, huv, hspl1, c21, d21]
            refine hk1 _ _ ⟨u, uv, sz W20, ?_, ?_, ?_, ?_, hino, ?_, ?_, ?_, ?_, ?_⟩
            · simp [put_get]
            · exact mm_wr_same d21 _
            · rw [sz_wr]; have := fw21.size; omega
            · exact isT_wrB b21 hTu
            · simp [put_get]
            · exact (f21.trans0 fw21).wr (.inr (Nat.le_refl _)) _
            all_goals simp [put_get, e8, e10]
        rintro e2 w22 ⟨u, uv, k20, x20, xm20, xl20, hTu, hino, x21, f22, x8, x10, x18⟩
        have q22 := q20.trans0 f22
        have BS2 := BS.fr0 q22
        have BT2 := BT.fr0 q22
        have r1 := BS2.mr
        have r2 := BS2.rbl
        have t1 := BT2.mr
        have t2 := BT2.rbl
        have n1 : mm w22 (sz w19) = [i64 2, i64 0, i64 1, i64 t.size, i64 0, i64 60] := by rw [f22.mm l20 (by simp), m20]
        have n2 : sz w19 < sz w22 := f22.lt l20
        have hspl54 : ∀ (a : Option Addr) (l c : Nat), splice [Value.slice none 0 0, i64 0] 0 [.slice a l c, i64 60] = [.slice a l c, i64 60] := fun _ _ _ => splice_full rfl
        have hspl55 : ∀ (a a2 : Option Addr) (l c l2 c2 : Nat), splice [Value.slice a2 l2 c2, i64 60] 0 [.slice a l c, i64 60] = [.slice a l c, i64 60] := fun _ _ _ _ _ _ => splice_full rfl
        obtain ⟨W23, hW23⟩ : ∃ W, W = wr (nw w22 [Value.slice none 0 0, i64 0] 54) (sz w22) [.slice sa1 L1.length sc1, i64 60] := ⟨_, rfl⟩
        have f23 : Fr [] w22 W23 := by rw [hW23]; exact ((Fr.refl [] w22).nw _ _).wr (.inr (Nat.le_refl _)) _
        have s23 : sz W23 = sz w22 + 1 := by rw [hW23, sz_wr, sz_nw]
        have n3 : mm W23 (sz w19) = [i64 2, i64 0, i64 1, i64 t.size, i64 0, i64 60] := by rw [f23.mm n2 (by simp), n1]
        have n4 : sz w19 < sz W23 := by omega
        have m23 : mm W23 (sz w22) = [.slice sa1 L1.length sc1, i64 60] := by rw [hW23]; exact mm_wr_same (by rw [fz_nw, if_pos rfl]) _
        have z23 : fz W23 (sz w22) = false := by rw [hW23, fz_wr, fz_nw, if_pos rfl]
        have l23 : sz w22 < sz W23 := by omega
        have xm23 : mm W23 k20 = [uv, i64 60] := by rw [f23.mm xl20 (by simp), xm20]
        have xl23 : k20 < sz W23 := by omega
        have hTu23 := hTu.fr0 f23
        have BS3 := BS2.fr0 f23
        have BT3 := BT2.fr0 f23
        have r3 := BS3.mr
        have r4 := BS3.rbl
        have t3 := BT3.mr
        have t4 := BT3.rbl
        obtain ⟨W24, hW24⟩ : ∃ W, W = wr W23 (sz w22) [.slice sa2 L2.length sc2, i64 60] := ⟨_, rfl⟩
        have f24' : Fr [sz w22] W23 W24 := by rw [hW24]; exact (Fr.refl _ _).wr (.inl (by simp)) _
        have f24 : Fr [] w22 W24 := f23.trans f24' (fun k hk => .inr (by simp at hk; omega))
        have s24 : sz W24 = sz W23 := by rw [hW24, sz_wr]
        have m24 : mm W24 (sz w22) = [.slice sa2 L2.length sc2, i64 60] := by rw [hW24]; exact mm_wr_same z23 _
        have l24 : sz w22 < sz W24 := by omega
        have xm24 : mm W24 k20 = [uv, i64 60] := by rw [f24.mm xl20 (by simp), xm20]
        have xl24 : k20 < sz W24 := by omega
        have BT4 := BT2.fr0 f24
        try simp (maxDischargeDepth := 8) [↓sC, sB, sM, x20, x21, x8, x10, x18, r1, r2, t1, t2, n1, n2, ht2, hspl54, hspl55, ← hW23, n3, n4, m23, z23, l23, t3, t4, ← hW24, m24, l24, xm24, xl24]
        refine (is_spec (hTu.fr0 f24) (by rw [hino]; exact BT.srt) (by rw [hino]; exact BT.key) (by rw [← Tr.size_ino, hino, Tr.size_ino]; exact BT.size) BT4.ref (by rw [hino]; exact BT.map)).call ?_
        rintro _ w25 ⟨rfl, f25⟩
        try simp (maxDischargeDepth := 8) [↓sC, sB, sM]
        exact (q7w.trans0 (q22.trans0 f24)).trans0 f25
      · cases hp
    · rw [hget] at hG
      rcases hG with ⟨p, hp, rfl⟩ | ⟨hp, _⟩
      · have hpp : p = P2 t.size := (Option.some.inj hp).symm
        subst hpp
        have hpv : pinV (P2 t.size) = .agg #[i64 2, i64 0, i64 1, i64 t.size, i64 0, i64 60] := rfl
        rw [hpv]
        have hspp : splice [i64 0, i64 0, i64 0, i64 0, i64 0, i64 0] 0 [i64 2, i64 0, i64 1, i64 t.size, i64 0, i64 60] = [i64 2, i64 0, i64 1, i64 t.size, i64 0, i64 60] := splice_full rfl
        obtain ⟨W20, hW20⟩ : ∃ W, W = wr (nw w19 [i64 0, i64 0, i64 0, i64 0, i64 0, i64 0] 29) (sz w19) [i64 2, i64 0, i64 1, i64 t.size, i64 0, i64 60] := ⟨_, rfl⟩
        have f20 : Fr [] w19 W20 := by rw [hW20]; exact ((Fr.refl [] w19).nw _ _).wr (.inr (Nat.le_refl _)) _
        have s20 : sz W20 = sz w19 + 1 := by rw [hW20, sz_wr, sz_nw]
        have m20 : mm W20 (sz w19) = [i64 2, i64 0, i64 1, i64 t.size, i64 0, i64 60] := by rw [hW20]; exact mm_wr_same (by rw [fz_nw, if_pos rfl]) _
        have q20 : Fr [] W7 W20 := q19.trans0 f20
        have z43b : mm W20 (sz w11) = [i64 2, i64 2000, i64 2002, i64 2000] := by rw [f20.mm y43 (by simp), x43]
        have y43b : sz w11 < sz W20 := by omega
        have l20 : sz w19 < sz W20 := by omega
        have hf1 : (f = 0) = False := eq_false hf0
        try simp (maxDischargeDepth := 8) [↓sC, sB, sM, hspp, ← hW20, m20, l20, e17, hf1]
        obtain ⟨W21, hW21⟩ : ∃ W, W = nw (drew W20) [.pointer none, i64 0] 32 := ⟨_, rfl⟩
        have fd : Fr [] W20 (drew W20) := (Fr.refl [] W20).drew
        have fd21 : Fr [] (drew W20) W21 := by rw [hW21]; exact (Fr.refl [] _).nw _ _
        have f21 : Fr [] W20 W21 := fd.trans0 fd21
        have s21 : sz W21 = sz W20 + 1 := by rw [hW21, sz_nw, sz_drew]
        have m21 : mm W21 (sz w19) = [i64 2, i64 0, i64 1, i64 t.size, i64 0, i64 60] := by rw [f21.mm l20 (by simp), m20]
        have m43d : mm W21 (sz w11) = [i64 2, i64 2000, i64 2002, i64 2000] := by rw [f21.mm y43b (by simp), z43b]
        have m21b : mm W21 (sz W20) = [.pointer none, i64 0] := by rw [hW21, mm_nw, if_pos (by rw [sz_drew])]
        have z21b : fz W21 (sz W20) = false := by rw [hW21, fz_nw, if_pos (by rw [sz_drew])]
        have l21 : sz w19 < sz W21 := by omega
        have l43d : sz w11 < sz W21 := by omega
        have hspl1 : ∀ v : Value, splice [Value.pointer none, i64 0] 0 [v, i64 60] = [v, i64 60] := fun _ => splice_full rfl
        have ls0 : ∀ {wx : World}, Fr [] w19 wx → Ret P 14 #[pt b 0, .agg #[i64 2002, i64 2000], i64 t.size, i64 60] wx fun x w' => LoadR t.ino wx x w' := fun {wx} fx => by
          have ls := load_spec (fr := 2002) (L := t.ino) (hd19.fr0 fx) hdn fitB BT.srt BT.key (BT.isT.okR) (by rw [Tr.size_ino]; exact BT.size) hscan
          unfold ar at ls
          rw [Tr.size_ino] at ls
          exact ls
        refine drawE_of (fun e2 w' => ∃ (u : Tr) (uv : Value) (k20 : Nat), e2 20 = pt k20 0 ∧ mm w' k20 = [uv, i64 60] ∧ k20 < sz w' ∧ IsT w' u uv ∧ u.ino = t.ino ∧ e2 21 = i64 0 ∧ Fr [] W20 w' ∧ e2 8 = pt rb1 0 ∧ e2 10 = pt rb2 0 ∧ e2 18 = pt (sz w19) 0) ?_ ?_
        · intro k1 kp hk1
          try simp (maxDischargeDepth := 8) [↓sC, sB, sM, e11, e13, e8, e10, m20, l20, z43b, y43b, ht2, ← hW21, m21, l21, m43d, l43d]
          refine ⟨?_, ?_⟩
          · refine (ls0 (f20.trans0 fd)).call ?_
            rintro x w21 ⟨u, uv, rfl, hTu, hino, fw21⟩
            have huv := hTu.one
            try simp (maxDischargeDepth := 8) [↓sC, sB, sM, huv, hspl1]
            refine hk1 _ _ ⟨u, uv, sz w21, ?_, ?_, ?_, ?_, hino, ?_, ?_, ?_, ?_, ?_⟩
            · simp [put_get]
            · simp [sM]
            · simp [sM]
            · exact hTu.fr0 (((Fr.refl [] w21).nw _ _).wr (.inr (Nat.le_refl _)) _)
            · simp [put_get]
            · exact ((fd.trans0 fw21).nw _ _).wr (.inr ((fd.trans0 fw21).size)) _
            all_goals simp [put_get, e8, e10]
          · refine (ls0 (f20.trans0 f21)).call ?_
            rintro x w21 ⟨u, uv, rfl, hTu, hino, fw21⟩
            have huv := hTu.one
            have b21 : Box w21 (sz W20) (.pointer none) (i64 0) := ⟨by rw [fw21.mm (by omega) (by simp), m21b], by rw [fw21.fz (by omega) (by simp), z21b], fun z => by simp⟩
            have c21 := b21.m
            have d21 := b21.z
            try simp (maxDischargeDepth := 8) [↓sC, sB, sM, huv, hspl1, c21, d21]
            refine hk1 _ _ ⟨u, uv, sz W20, ?_, ?_, ?_, ?_, hino, ?_, ?_, ?_, ?_, ?_⟩
            · simp [put_get]
            · exact mm_wr_same d21 _
            · rw [sz_wr]; have := fw21.size; omega
            · exact isT_wrB b21 hTu
            · simp [put_get]
            · exact (f21.trans0 fw21).wr (.inr (Nat.le_refl _)) _
            all_goals simp [put_get, e8, e10]
        rintro e2 w22 ⟨u, uv, k20, x20, xm20, xl20, hTu, hino, x21, f22, x8, x10, x18⟩
        have q22 := q20.trans0 f22
        have BS2 := BS.fr0 q22
        have BT2 := BT.fr0 q22
        have r1 := BS2.mr
        have r2 := BS2.rbl
        have t1 := BT2.mr
        have t2 := BT2.rbl
        have n1 : mm w22 (sz w19) = [i64 2, i64 0, i64 1, i64 t.size, i64 0, i64 60] := by rw [f22.mm l20 (by simp), m20]
        have n2 : sz w19 < sz w22 := f22.lt l20
        have hspl54 : ∀ (a : Option Addr) (l c : Nat), splice [Value.slice none 0 0, i64 0] 0 [.slice a l c, i64 60] = [.slice a l c, i64 60] := fun _ _ _ => splice_full rfl
        have hspl55 : ∀ (a a2 : Option Addr) (l c l2 c2 : Nat), splice [Value.slice a2 l2 c2, i64 60] 0 [.slice a l c, i64 60] = [.slice a l c, i64 60] := fun _ _ _ _ _ _ => splice_full rfl
        obtain ⟨W23, hW23⟩ : ∃ W, W = wr (nw w22 [Value.slice none 0 0, i64 0] 54) (sz w22) [.slice sa1 L1.length sc1, i64 60] := ⟨_, rfl⟩
        have f23 : Fr [] w22 W23 := by rw [hW23]; exact ((Fr.refl [] w22).nw _ _).wr (.inr (Nat.le_refl _)) _
        have s23 : sz W23 = sz w22 + 1 := by rw [hW23, sz_wr, sz_nw]
        have n3 : mm W23 (sz w19) = [i64 2, i64 0, i64 1, i64 t.size, i64 0, i64 60] := by rw [f23.mm n2 (by simp), n1]
        have n4 : sz w19 < sz W23 := by omega
        have m23 : mm W23 (sz w22) = [.slice sa1 L1.length sc1, i64 60] := by rw [hW23]; exact mm_wr_same (by rw [fz_nw, if_pos rfl]) _
        have z23 : fz W23 (sz w22) = false := by rw [hW23, fz_wr, fz_nw, if_pos rfl]
        have l23 : sz w22 < sz W23 := by omega
        have xm23 : mm W23 k20 = [uv, i64 60] := by rw [f23.mm xl20 (by simp), xm20]
        have xl23 : k20 < sz W23 := by omega
        have hTu23 := hTu.fr0 f23
        have BS3 := BS2.fr0 f23
        have BT3 := BT2.fr0 f23
        have r3 := BS3.mr
        have r4 := BS3.rbl
        have t3 := BT3.mr
        have t4 := BT3.rbl
        obtain ⟨W24, hW24⟩ : ∃ W, W = wr W23 (sz w22) [.slice sa2 L2.length sc2, i64 60] := ⟨_, rfl⟩
        have f24' : Fr [sz w22] W23 W24 := by rw [hW24]; exact (Fr.refl _ _).wr (.inl (by simp)) _
        have f24 : Fr [] w22 W24 := f23.trans f24' (fun k hk => .inr (by simp at hk; omega))
        have s24 : sz W24 = sz W23 := by rw [hW24, sz_wr]
        have m24 : mm W24 (sz w22) = [.slice sa2 L2.length sc2, i64 60] := by rw [hW24]; exact mm_wr_same z23 _
        have l24 : sz w22 < sz W24 := by omega
        have xm24 : mm W24 k20 = [uv, i64 60] := by rw [f24.mm xl20 (by simp), xm20]
        have xl24 : k20 < sz W24 := by omega
        have BT4 := BT2.fr0 f24
        try simp (maxDischargeDepth := 8) [↓sC, sB, sM, x20, x21, x8, x10, x18, r1, r2, t1, t2, n1, n2, ht2, hspl54, hspl55, ← hW23, n3, n4, m23, z23, l23, t3, t4, ← hW24, m24, l24, xm24, xl24]
        refine (is_spec (hTu.fr0 f24) (by rw [hino]; exact BT.srt) (by rw [hino]; exact BT.key) (by rw [← Tr.size_ino, hino, Tr.size_ino]; exact BT.size) BT4.ref (by rw [hino]; exact BT.map)).call ?_
        rintro _ w25 ⟨rfl, f25⟩
        try simp (maxDischargeDepth := 8) [↓sC, sB, sM]
        exact (q7w.trans0 (q22.trans0 f24)).trans0 f25
      · cases hp
end Go.Proofs.YtieejbkbdfccdaaGreat
