/- PinChecks: the law. Printed by pchecks.py. -/
import Derived.Test.YticncfkpfpkfoaaSim
import Derived.Test.YticncfkpfpkfoaaPinEH
import Derived.Test.YticncfkpfpkfoaaWPinC
set_option linter.unusedVariables false
set_option linter.unusedSimpArgs false
namespace Go.Proofs.Yticncfkpfpkfoaa
open Go

theorem two_lo {a b : List UInt8} (ha : a.length = 64) {w : World} {x : Nat} (h : mm w x = bs a ++ bs b) (hb : b.length = 64) : pLoad P 25 (pt x 0) w = some (sec a, w) := by
  rw [ld25 (by rw [h, List.length_append, bs_length, bs_length]; omega), h, List.drop_zero, List.take_append_of_le_length (by rw [bs_length]; omega), List.take_of_length_le (by rw [bs_length]; omega)]
theorem two_hi {a b : List UInt8} (ha : a.length = 64) {w : World} {x : Nat} (h : mm w x = bs a ++ bs b) (hb : b.length = 64) : pLoad P 25 (pt x 64) w = some (sec b, w) := by
  rw [ld25 (by rw [h, List.length_append, bs_length, bs_length]; omega), h, List.drop_append_of_le_length (by rw [bs_length]; omega), List.drop_eq_nil_of_le (by rw [bs_length]; omega), List.nil_append, List.take_of_length_le (by rw [bs_length]; omega)]
theorem sec_cell {w : World} {x : Nat} {s : List UInt8} (h : mm w x = bs s) (hs : s.length = 64) : pLoad P 25 (pt x 0) w = some (sec s, w) := by
  rw [ld25 (by rw [h, bs_length]; omega), h, List.drop_zero, List.take_of_length_le (by rw [bs_length]; omega)]
theorem sec_put {w : World} {s : List UInt8} (hs : s.length = 64) : pStore P 25 (pt (sz w) 0) (sec s) (nw w (bs (zb 64)) 25) = some (wr (nw w (bs (zb 64)) 25) (sz w) (bs s)) := by
  try simp (maxDischargeDepth := 8) [↓sC, sB, sM, hs]
set_option maxRecDepth 20000 in
theorem pinChecks_law {w : World} {p : PinP} {s0 s1 : List UInt8} (h0 : s0.length = 64) (h1 : s1.length = 64) : Ret P 18 #[pinV p, .agg (bs s0 ++ bs s1).toArray] w fun x w' => x = .bool true ∧ Fr [] w w' := by
  refine F18ok ?_
  unfold F18
  obtain ⟨t7, ht7⟩ : ∃ t7 : List UInt8, t7 = (zb 64).set 0 7 := ⟨_, rfl⟩
  have h7 : t7.length = 64 := by rw [ht7]; simp
  have b7 : ∀ w, pBuild P 25 [(0, u8 7)] w = some (sec t7, w) := fun w => by rw [bd25 (by simp), ht7]; rfl
  have hbz : ∀ w, pBuild P 87 [] w = some (pinV zPin, w) := fun w => by rw [bf87 (by simp)]; rfl
  generalize hva : Value.agg (bs s0 ++ bs s1).toArray = va
  have hx98 : va.cells.toList = bs s0 ++ bs s1 := by rw [← hva]; rfl
  obtain ⟨W, hW⟩ : ∃ W, W = nw (nw w (pinL p) 87) (bs s0 ++ bs s1) 98 := ⟨_, rfl⟩
  have fW : Fr [] w W := by rw [hW]; exact ((Fr.refl [] w).nw _ _).nw _ _
  have hW0 : mm W (sz w) = pinL p := by rw [hW]; simp [sM]
  have hW1 : mm W (sz w + 1) = bs s0 ++ bs s1 := by rw [hW]; simp [sM]
  have hWz : fz W (sz w + 1) = false := by rw [hW]; simp [sM]
  have hWs : sz W = sz w + 2 := by rw [hW]; simp [sM]
  unfold pinL at hW
  try simp (maxDischargeDepth := 8) [↓sC, sB, sM, hx98, ← hW, b7, hbz, -bd25, -bf87]
  refine speaks22.call ?_
  rintro _ w1 ⟨rfl, f1⟩
  have hnew1 : Ret P 27 #[i64 3] w1 _ := new_spec (w := w1) (n := 3) (by omega) (by omega)
  try simp (maxDischargeDepth := 8) [↓sC, sB, sM]
  refine hnew1.call ?_
  rintro _ w2 ⟨b, F1, rfl, hd2, f2, hF1⟩
  have q2 : Fr [] W w2 := f1.trans0 f2
  have c2 := newN_calm 3
  have hF1' : ∀ k ∈ F1, sz w + 2 ≤ k := fun k hk => by have := hF1 k hk; have := f1.size; omega
  have m2 : mm w2 (sz w + 1) = bs s0 ++ bs s1 := by rw [q2.mm (by omega) (by simp), hW1]
  have l2 := two_lo h0 m2 h1
  try simp (maxDischargeDepth := 8) [↓sC, sB, sM, l2, -ld25]
  have hws1 := write_spec (x := ((0 : Nat) : Int)) (s := s0) hd2 h0 (by simp [newD]) (by simp [newD])
  refine hws1.call ?_
  rintro _ w3 ⟨rfl, F3, hd3, f3, hF3⟩
  have c3 := c2.write (x := 0) (by omega) s0
  have hF3' : ∀ k ∈ F3, sz w + 2 ≤ k := fun k hk => by
    rcases hF3 k hk with h | h
    · exact hF1' k h
    · have := q2.size; omega
  have nF1 : ∀ k, k < sz w + 2 → k ∉ F1 := fun k hk hk2 => by have := hF1' k hk2; omega
  have nF3 : ∀ k, k < sz w + 2 → k ∉ F3 := fun k hk hk2 => by have := hF3' k hk2; omega
  have s2 : sz w + 1 < sz w2 := q2.lt (by omega)
  have s2' : sz w < sz w2 := by omega
  have m3 : mm w3 (sz w + 1) = bs s0 ++ bs s1 := by rw [f3.mm s2 (nF1 _ (by omega)), m2]
  have l3 := two_hi h0 m3 h1
  obtain ⟨D3, hD3⟩ : ∃ D3, D3 = writeD (newD 3) ((0 : Nat) : Int) s0 := ⟨_, rfl⟩
  have hc3 : CalmN 3 D3 := by rw [hD3]; exact c3
  have v3 : ∀ i, view D3 i = if i = 0 then s0 else view (newD 3) i := fun i => by
    rw [hD3, view_write (c2.ok (x := 0) (by omega))]
    by_cases hi : i = 0
    · subst hi; rw [if_pos rfl, if_pos rfl]
    · rw [if_neg (by omega), if_neg hi]
  have p3 : D3.pend.length ≤ 1 := by rw [hD3]; have := pinW_pend (newD 3) ((0 : Nat) : Int) s0; simpa [newD] using this
  have r3 : D3.writes ≤ 1 := by rw [hD3]; have := pinW_writes (newD 3) ((0 : Nat) : Int) s0; simpa [newD] using this
  rw [← hD3] at hd3
  try simp (maxDischargeDepth := 8) [↓sC, sB, sM, l3, -ld25]
  have hws2 := write_spec (x := ((1 : Nat) : Int)) (s := s1) hd3 h1 (by omega) (by omega)
  refine hws2.call ?_
  rintro _ w4 ⟨rfl, F4, hd4, f4, hF4⟩
  have hc4 := hc3.write (x := 1) (by omega) s1
  obtain ⟨D4, hD4⟩ : ∃ D4, D4 = writeD D3 ((1 : Nat) : Int) s1 := ⟨_, rfl⟩
  have v4 : ∀ i, view D4 i = if i = 1 then s1 else view D3 i := fun i => by
    rw [hD4, view_write (hc3.ok (x := 1) (by omega))]
    by_cases hi : i = 1
    · subst hi; rw [if_pos rfl, if_pos rfl]
    · rw [if_neg (by omega), if_neg hi]
  have p4 : D4.pend.length ≤ 2 := by rw [hD4]; have := pinW_pend D3 ((1 : Nat) : Int) s1; omega
  have r4 : D4.writes ≤ 2 := by rw [hD4]; have := pinW_writes D3 ((1 : Nat) : Int) s1; omega
  rw [← hD4] at hd4 hc4
  have hF4' : ∀ k ∈ F4, sz w + 2 ≤ k := fun k hk => by
    rcases hF4 k hk with h | h
    · exact hF3' k h
    · have := f3.size; omega
  have nF4 : ∀ k, k < sz w + 2 → k ∉ F4 := fun k hk hk2 => by have := hF4' k hk2; omega
  try simp (maxDischargeDepth := 8) [↓sC, sB, sM]
  have hws3 := write_spec (x := ((2 : Nat) : Int)) (s := t7) hd4 h7 (by omega) (by omega)
  refine hws3.call ?_
  rintro _ w5 ⟨rfl, F5, hd5, f5, hF5⟩
  have hc5 := hc4.write (x := 2) (by omega) t7
  obtain ⟨D5, hD5⟩ : ∃ D5, D5 = writeD D4 ((2 : Nat) : Int) t7 := ⟨_, rfl⟩
  have v5 : ∀ i, view D5 i = if i = 2 then t7 else view D4 i := fun i => by
    rw [hD5, view_write (hc4.ok (x := 2) (by omega))]
    by_cases hi : i = 2
    · subst hi; rw [if_pos rfl, if_pos rfl]
    · rw [if_neg (by omega), if_neg hi]
  have r5 : D5.writes ≤ 3 := by rw [hD5]; have := pinW_writes D4 ((2 : Nat) : Int) t7; omega
  rw [← hD5] at hd5 hc5
  have hF5' : ∀ k ∈ F5, sz w + 2 ≤ k := fun k hk => by
    rcases hF5 k hk with h | h
    · exact hF4' k h
    · have := f4.size; have := f3.size; omega
  have nF5 : ∀ k, k < sz w + 2 → k ∉ F5 := fun k hk hk2 => by have := hF5' k hk2; omega
  try simp (maxDischargeDepth := 8) [↓sC, sB, sM]
  refine (sync_spec hd5).call ?_
  rintro _ w6 ⟨rfl, hd6, f6⟩
  obtain ⟨hc6, hp6, hv6, hw6⟩ := syncN hc5
  obtain ⟨D6, hD6⟩ : ∃ D6, D6 = syncD D5 := ⟨_, rfl⟩
  rw [← hD6] at hd6 hc6 hp6 hv6 hw6
  have vw0 : view D6 0 = s0 := by rw [hv6, v5, if_neg (by omega), v4, if_neg (by omega), v3, if_pos rfl]
  have vw1 : view D6 1 = s1 := by rw [hv6, v5, if_neg (by omega), v4, if_pos rfl]
  have vw2 : view D6 2 = t7 := by rw [hv6, v5, if_pos rfl]
  have g6 : Fr [] W w6 := (((q2.trans f3 (fun k hk => .inr (by have := hF1' k hk; omega))).trans f4 (fun k hk => .inr (by have := hF3' k hk; omega))).trans f5 (fun k hk => .inr (by have := hF4' k hk; omega))).trans f6 (fun k hk => .inr (by have := hF5' k hk; omega))
  have m6 : mm w6 (sz w) = pinL p := by rw [g6.mm (by omega) (by simp), hW0]
  have n6 : mm w6 (sz w + 1) = bs s0 ++ bs s1 := by rw [g6.mm (by omega) (by simp), hW1]
  have y6 : fz w6 (sz w + 1) = false := by rw [g6.fz (by omega) (by simp), hWz]
  have z6 : sz w < sz w6 := g6.lt (by omega)
  have hl6 : pLoad P 87 (pt (sz w) 0) w6 = some (pinV p, w6) := pld87 m6
  try simp (maxDischargeDepth := 8) [↓sC, sB, sM, hl6, -ld87]
  refine (of22_spec (p := p)).call ?_
  rintro _ w7 ⟨rfl, f7⟩
  have hrc := refCheck_spec (w := w7) (p := p)
  try simp (maxDischargeDepth := 8) [↓sC, sB, sM]
  refine hrc.call ?_
  rintro _ w8 ⟨rfl, f8⟩
  have q8 := f7.trans0 f8
  have m8 : mm w8 (sz w) = pinL p := by rw [q8.mm z6 (by simp), m6]
  have z8 := q8.lt z6
  have hl8 : pLoad P 87 (pt (sz w) 0) w8 = some (pinV p, w8) := pld87 m8
  try simp (maxDischargeDepth := 8) [↓sC, sB, sM, hl8, -ld87]
  by_cases hk : okPin p
  · have hdt : decide (okPin p) = true := decide_eq_true hk
    have hkt : (okPin p) = True := eq_true hk
    obtain ⟨k, hkk, hk2⟩ := side_nat hk
    refine (put_ok (hd6.fr0 q8) hc6 hp6 (by omega) hk hkk (by omega)).call ?_
    rintro _ w9 ⟨rfl, D9, F9, hd9, hg9, hc9, hp9, hv9, hw9⟩
    have hlen := pinB_len hk
    have hsl := sealOf_length hlen
    have hF9' : ∀ k ∈ F9, sz w + 2 ≤ k := fun k hk => by
      rcases hg9.new k hk with h | h
      · exact hF5' k h
      · have := g6.size; have := q8.size; omega
    have nF9 : ∀ k, k < sz w + 2 → k ∉ F9 := fun k hk hk2 => by have := hF9' k hk2; omega
    have y8 : sz w + 1 < sz w8 := q8.lt (lt_of_fz y6)
    have m9 : mm w9 (sz w) = pinL p := by rw [hg9.fr.mm z8 (nF5 _ (by omega)), m8]
    have n9 : mm w9 (sz w + 1) = bs s0 ++ bs s1 := by rw [hg9.fr.mm y8 (nF5 _ (by omega)), q8.mm (lt_of_fz y6) (by simp), n6]
    have x9 : fz w9 (sz w + 1) = false := by rw [hg9.fr.fz y8 (nF5 _ (by omega)), q8.fz (lt_of_fz y6) (by simp), y6]
    have z9 := hg9.fr.lt z8
    have g9 : Fr [] w w9 := ((fW.trans0 g6).trans0 q8).trans hg9.fr (fun k hk => .inr (by have := hF5' k hk; omega))
    have hl9 : pLoad P 87 (pt (sz w) 0) w9 = some (pinV p, w9) := pld87 m9
    try simp (maxDischargeDepth := 8) [↓sC, sB, sM, hl9, -ld87]
    have hck := check_spec (w := w9) (p := p)
    refine hck.call ?_
    rintro _ w10 ⟨rfl, f10⟩
    have m10 : mm w10 (sz w) = pinL p := by rw [f10.mm z9 (by simp), m9]
    have z10 := f10.lt z9
    have y9 : sz w + 1 < sz w9 := lt_of_fz x9
    have y10 := f10.lt y9
    have n10 : mm w10 (sz w + 1) = bs s0 ++ bs s1 := by rw [f10.mm y9 (by simp), n9]
    have x10 : fz w10 (sz w + 1) = false := by rw [f10.fz y9 (by simp), x9]
    have hl10 : pLoad P 87 (pt (sz w) 0) w10 = some (pinV p, w10) := pld87 m10
    try simp (maxDischargeDepth := 8) [↓sC, sB, sM, hkt, hl10, -ld87]
    refine (crash_spec (kept := []) (hd9.fr0 f10) (.inl ⟨none, 0, rfl, rfl, rfl⟩) (fun _ _ _ => rfl)).call ?_
    rintro _ w11 ⟨hd11, f11⟩
    rw [crash_firm hc9 hp9] at hd11
    have m11 : mm w11 (sz w) = pinL p := by rw [f11.mm z10 (nF9 _ (by omega)), m10]
    have z11 := f11.lt z10
    have hl11 : pLoad P 87 (pt (sz w) 0) (drew w11) = some (pinV p, drew w11) := pld87 (by rw [mm_drew, m11])
    have hn11 : pLoad P 3 (pt (sz w) 0) (drew w11) = some (i64 p.s, drew w11) := by rw [ld3 (by rw [mm_drew, m11, pinL_len]; omega), mm_drew, m11, pg0]
    have hrm := remP hk hkk
    have fd11 := (Fr.refl [] w11).drew
    try simp (maxDischargeDepth := 8) [↓sC, sB, sM, hkt, hl11, hn11, hrm, -ld87, -ld3]
    refine (of22_spec (p := p)).call ?_
    rintro _ w12 ⟨rfl, f12⟩
    have q12 := fd11.trans0 f12
    have hn12 : pLoad P 3 (pt (sz w) 0) w12 = some (i64 p.s, w12) := by rw [ld3 (by rw [q12.mm z11 (by simp), m11, pinL_len]; omega), q12.mm z11 (by simp), m11, pg0]
    try simp (maxDischargeDepth := 8) [↓sC, sB, sM, hn12, hrm, -ld87, -ld3]
    refine (refSector_spec hk).call ?_
    rintro _ w13 ⟨rfl, f13⟩
    have q13 := q12.trans0 f13
    have hn13 : pLoad P 3 (pt (sz w) 0) w13 = some (i64 p.s, w13) := by rw [ld3 (by rw [q13.mm z11 (by simp), m11, pinL_len]; omega), q13.mm z11 (by simp), m11, pg0]
    have n13 : mm w13 (sz w + 1) = bs s0 ++ bs s1 := by rw [q13.mm (f11.lt y10) (by simp), f11.mm y10 (nF9 _ (by omega)), n10]
    have x13 : fz w13 (sz w + 1) = false := by rw [q13.fz (f11.lt y10) (by simp), f11.fz y10 (nF9 _ (by omega)), x10]
    obtain ⟨a, b', hab, ha, hb, hva, hvb, hst⟩ : ∃ a b' : List UInt8, (view D9 0 = a ∧ view D9 1 = b') ∧ a.length = 64 ∧ b'.length = 64 ∧ True ∧ True ∧ pStore P 25 (pt (sz w + 1) (k * 64)) (sec (sealOf (pinB p))) w13 = some (wr w13 (sz w + 1) (bs a ++ bs b')) := by
      have hk01 : k = 0 ∨ k = 1 := by omega
      rcases hk01 with rfl | rfl
      · refine ⟨sealOf (pinB p), s1, ⟨by rw [hv9, if_pos rfl], by rw [hv9, if_neg (by omega), vw1]⟩, hsl, h1, trivial, trivial, ?_⟩
        rw [st25 (by simp [hsl]) (by simp [sM, bs, bv]) x13 (by rw [n13, List.length_append, bs_length, bs_length]; omega), n13]
        congr 2
        simp [splice, bs, h0, hsl]
      · refine ⟨s0, sealOf (pinB p), ⟨by rw [hv9, if_neg (by omega), vw0], by rw [hv9, if_pos rfl]⟩, h0, hsl, trivial, trivial, ?_⟩
        rw [st25 (by simp [hsl]) (by simp [sM, bs, bv]) x13 (by rw [n13, List.length_append, bs_length, bs_length]; omega), n13]
        congr 2
        simp [splice, bs, h0, h1, hsl]
    have hix : ∀ w', pIndexAddr P 98 (pt (sz w + 1) 0) (i64 k) w' = some (pt (sz w + 1) (k * 64), w') := fun w' => by
      rw [ia98 (by omega) (by omega)]; simp
    obtain ⟨w20, hw20⟩ : ∃ w20, w20 = wr w13 (sz w + 1) (bs a ++ bs b') := ⟨_, rfl⟩
    have m20 : mm w20 (sz w + 1) = bs a ++ bs b' := by rw [hw20, mm_wr_same x13]
    have f20 : Fr [sz w + 1] w11 w20 := by rw [hw20]; exact (q13.mono (by simp)).wr (.inl (by simp)) _
    have z20 : sz w + 1 < sz w20 := by rw [hw20, sz_wr]; exact lt_of_fz x13
    rw [← hw20] at hst
    try simp (maxDischargeDepth := 8) [↓sC, sB, sM, hn13, hrm, hix, hst, -ld3, -st25, -ia98]
    have hd20 : IsD w20 b D9 F9 := hd11.fr f20 (fun k hk hk2 => by rw [List.mem_singleton] at hk2; exact nF9 _ (by omega) (hk2 ▸ hk))
    have g20 : Fr [] w w20 := ((g9.trans0 f10).trans f11 (fun k hk => .inr (by have := hF9' k hk; omega))).trans f20 (fun k hk => .inr (by rw [List.mem_singleton] at hk; omega))
    have hv9' : view D9 2 = t7 := by
      rw [hv9, if_neg (by omega), vw2]
    have hok : ∀ x : Nat, x < 3 → okE D9 (x : Int) = 0 := fun x hx => hc9.ok hx
    have hne : ∀ (s : List UInt8), s.length = 64 → ∀ w, pBin P .neq 25 false (sec s) (sec s) w = some (.bool false, w) := fun s hs w => by rw [nes25 hs hs]; simp
    have hr0 := read_spec (x := ((0 : Nat) : Int)) hd20 (by omega) (by omega)
    rw [hok 0 (by omega)] at hr0
    have e0 : readD D9 ((0 : Nat) : Int) = a := hab.1
    have e1 : readD D9 ((1 : Nat) : Int) = b' := hab.2
    have e2 : readD D9 ((2 : Nat) : Int) = t7 := hv9'
    rw [if_pos rfl, e0] at hr0
    refine hr0.call ?_
    rintro _ w21 ⟨rfl, f21⟩
    obtain ⟨X1, hX1⟩ : ∃ X1, X1 = wr (nw w21 (bs (zb 64)) 25) (sz w21) (bs a) := ⟨_, rfl⟩
    have fX1 : Fr [] w21 X1 := by rw [hX1]; exact ((Fr.refl [] w21).nw _ _).wr (.inr (Nat.le_refl _)) _
    have x1m : mm X1 (sz w21) = bs a := by rw [hX1, mm_wr_same]; simp [sM]
    have x1s : sz w21 < sz X1 := by rw [hX1]; simp [sM]
    have st1 := sec_put (w := w21) ha
    rw [← hX1] at st1
    try simp (maxDischargeDepth := 8) [↓sC, sB, sM, st1, -st25]
    have hr1 := read_spec (x := ((1 : Nat) : Int)) (hd20.fr0 (f21.trans0 fX1)) (by omega) (by omega)
    rw [hok 1 (by omega), if_pos rfl, e1] at hr1
    refine hr1.call ?_
    rintro _ w22 ⟨rfl, f22⟩
    obtain ⟨X2, hX2⟩ : ∃ X2, X2 = wr (nw w22 (bs (zb 64)) 25) (sz w22) (bs b') := ⟨_, rfl⟩
    have fX2 : Fr [] w22 X2 := by rw [hX2]; exact ((Fr.refl [] w22).nw _ _).wr (.inr (Nat.le_refl _)) _
    have x2m : mm X2 (sz w22) = bs b' := by rw [hX2, mm_wr_same]; simp [sM]
    have x2s : sz w22 < sz X2 := by rw [hX2]; simp [sM]
    have st2 := sec_put (w := w22) hb
    rw [← hX2] at st2
    try simp (maxDischargeDepth := 8) [↓sC, sB, sM, st2, -st25]
    have q22 := (((f21.trans0 fX1).trans0 f22).trans0 fX2)
    have hr2 := read_spec (x := ((2 : Nat) : Int)) (hd20.fr0 q22) (by omega) (by omega)
    rw [hok 2 (by omega), if_pos rfl, e2] at hr2
    refine hr2.call ?_
    rintro _ w23 ⟨rfl, f23⟩
    obtain ⟨X3, hX3⟩ : ∃ X3, X3 = wr (nw w23 (bs (zb 64)) 25) (sz w23) (bs t7) := ⟨_, rfl⟩
    have fX3 : Fr [] w23 X3 := by rw [hX3]; exact ((Fr.refl [] w23).nw _ _).wr (.inr (Nat.le_refl _)) _
    have x3m : mm X3 (sz w23) = bs t7 := by rw [hX3, mm_wr_same]; simp [sM]
    have st3 := sec_put (w := w23) h7
    rw [← hX3] at st3
    have q23 := (q22.trans0 f23).trans0 fX3
    have lA := two_lo ha (show mm X3 (sz w + 1) = bs a ++ bs b' by rw [q23.mm z20 (by simp), m20]) hb
    have lB := two_hi ha (show mm X3 (sz w + 1) = bs a ++ bs b' by rw [q23.mm z20 (by simp), m20]) hb
    have q13' : Fr [] X1 X3 := ((f22.trans0 fX2).trans0 f23).trans0 fX3
    have q23' : Fr [] X2 X3 := f23.trans0 fX3
    have x1m' : mm X3 (sz w21) = bs a := by rw [q13'.mm x1s (by simp), x1m]
    have x2m' : mm X3 (sz w22) = bs b' := by rw [q23'.mm x2s (by simp), x2m]
    have x1l := q13'.lt x1s
    have x2l := q23'.lt x2s
    have la := sec_cell x1m' ha
    have lb := sec_cell x2m' hb
    have lc := sec_cell x3m h7
    try simp (maxDischargeDepth := 8) [↓sC, sB, sM, st3, la, lb, lc, lA, lB, hne a ha, hne b' hb, hne t7 h7, -st25, -ld25, -nes25]
    refine (get_spec (hd20.fr0 q23) (reach_calm hc9 (by omega))).call ?_
    rintro xg w24 ⟨hxg, f24⟩
    rw [hab.1, hab.2] at hxg
    have qq24 : ∀ (q : PinP), ∃ Y, Y = wr (nw w24 (pinL zPin) 87) (sz w24) (pinL q) ∧ Fr [] w24 Y ∧ mm Y (sz w24) = pinL q ∧ sz w24 < sz Y ∧ pStore P 87 (pt (sz w24) 0) (pinV q) (nw w24 [Value.int .i64 0, Value.int .i64 0, Value.int .i64 0, Value.int .i64 0, Value.int .i64 0, Value.int .i64 0] 87) = some Y := fun q => by
      refine ⟨_, rfl, ((Fr.refl [] w24).nw _ _).wr (.inr (Nat.le_refl _)) _, by rw [mm_wr_same (by simp [sM])], by simp [sM], pst87 (by simp [sM]) (by simp [sM])⟩
    have hnw := @newest_spec
    cases hg : getM a b' with
    | none =>
      rw [hg] at hxg
      obtain rfl : xg = .tuple #[pinV zPin, i64 6] := by
        rcases hxg with ⟨q, hq, _⟩ | ⟨_, hx⟩
        · cases hq
        · exact hx
      obtain ⟨Y, hY, fY, mY, sY, stY⟩ := qq24 zPin
      have q24 := f24.trans0 fY
      have la' := sec_cell (show mm Y (sz w21) = bs a by rw [q24.mm x1l (by simp), x1m']) ha
      have lb' := sec_cell (show mm Y (sz w22) = bs b' by rw [q24.mm x2l (by simp), x2m']) hb
      try simp (maxDischargeDepth := 8) [↓sC, sB, sM, stY, la', lb', -st87, -ld25]
      refine (newest_spec ha hb).call ?_
      rintro _ w25 ⟨⟨qn, bn, rfl, hqn⟩, f25⟩
      rw [hg] at hqn
      obtain rfl : bn = false := by
        cases bn with
        | false => rfl
        | true => cases hqn
      obtain ⟨V, hV⟩ : ∃ V, V = wr (nw w25 (pinL zPin) 93) (sz w25) (pinL qn) := ⟨_, rfl⟩
      have fV : Fr [] w25 V := by rw [hV]; exact ((Fr.refl [] w25).nw _ _).wr (.inr (Nat.le_refl _)) _
      have stV : pStore P 93 (pt (sz w25) 0) (pinV qn) (nw w25 [Value.int .i64 0, Value.int .i64 0, Value.int .i64 0, Value.int .i64 0, Value.int .i64 0, Value.int .i64 0] 93) = some V := by rw [hV]; exact pst93 (by simp [sM]) (by simp [sM])
      have fVd := fV.drew
      have lY : pLoad P 87 (pt (sz w24) 0) (drew V) = some (pinV zPin, drew V) := pld87 (by rw [fVd.mm (f25.lt sY) (by simp), f25.mm sY (by simp), mY])
      have heq : ∀ w, pBin P .eql 87 false (pinV zPin) (pinV zPin) w = some (.bool true, w) := fun w => by rw [eqPin]; simp
      try simp (maxDischargeDepth := 8) [↓sC, sB, sM, stV, lY, heq, -st93, -ld87]
      exact (((((g20.trans0 q23).trans0 q24).trans0 f25).trans0 fVd))
    | some q =>
      rw [hg] at hxg
      obtain rfl : xg = .tuple #[pinV q, i64 0] := by
        rcases hxg with ⟨q', hq', hx⟩ | ⟨hno, _⟩
        · simp only [Option.some.injEq] at hq'; subst hq'; exact hx
        · cases hno
      obtain ⟨Y, hY, fY, mY, sY, stY⟩ := qq24 q
      have q24 := f24.trans0 fY
      have la' := sec_cell (show mm Y (sz w21) = bs a by rw [q24.mm x1l (by simp), x1m']) ha
      have lb' := sec_cell (show mm Y (sz w22) = bs b' by rw [q24.mm x2l (by simp), x2m']) hb
      try simp (maxDischargeDepth := 8) [↓sC, sB, sM, stY, la', lb', -st87, -ld25]
      refine (newest_spec ha hb).call ?_
      rintro _ w25 ⟨⟨qn, bn, rfl, hqn⟩, f25⟩
      rw [hg] at hqn
      obtain ⟨rfl, rfl⟩ : bn = true ∧ qn = q := by
        cases bn with
        | false => cases hqn
        | true => simp only [if_true, Option.some.injEq] at hqn; exact ⟨rfl, hqn.symm⟩
      obtain ⟨V, hV⟩ : ∃ V, V = wr (nw w25 (pinL zPin) 93) (sz w25) (pinL qn) := ⟨_, rfl⟩
      have fV : Fr [] w25 V := by rw [hV]; exact ((Fr.refl [] w25).nw _ _).wr (.inr (Nat.le_refl _)) _
      have vm : mm V (sz w25) = pinL qn := by rw [hV, mm_wr_same (by simp [sM])]
      have vs : sz w25 < sz V := by rw [hV]; simp [sM]
      have stV : pStore P 93 (pt (sz w25) 0) (pinV qn) (nw w25 [Value.int .i64 0, Value.int .i64 0, Value.int .i64 0, Value.int .i64 0, Value.int .i64 0, Value.int .i64 0] 93) = some V := by rw [hV]; exact pst93 (by simp [sM]) (by simp [sM])
      have fVd := fV.drew
      have lY : pLoad P 87 (pt (sz w24) 0) (drew V) = some (pinV qn, drew V) := pld87 (by rw [fVd.mm (f25.lt sY) (by simp), f25.mm sY (by simp), mY])
      have lV : pLoad P 93 (pt (sz w25) 0) (drew V) = some (pinV qn, drew V) := pld93 (by rw [mm_drew, vm])
      try simp (maxDischargeDepth := 8) [↓sC, sB, sM, stV, lY, lV, -st93, -ld87, -ld93]
      refine (of22_spec (p := qn)).call ?_
      rintro _ w26 ⟨rfl, f26⟩
      have heq : ∀ w, pBin P .eql 93 false (pinV qn) (pinV qn) w = some (.bool true, w) := fun w => by rw [eqRefPin]; simp
      have lV' : pLoad P 93 (pt (sz w25) 0) w26 = some (pinV qn, w26) := pld93 (by rw [f26.mm (by rw [sz_drew]; exact vs) (by simp), mm_drew, vm])
      try simp (maxDischargeDepth := 8) [↓sC, sB, sM, lV', heq, -ld93]
      exact (((((g20.trans0 q23).trans0 q24).trans0 f25).trans0 fVd)).trans0 f26
  · have hdt : decide (okPin p) = false := decide_eq_false hk
    have hkt : (okPin p) = False := eq_false hk
    refine (put_no (p := p) (hd6.fr0 q8) hc6 hp6 (by omega) hk (by omega)).call ?_
    rintro _ w9 ⟨rfl, F9, hd9, hg9⟩
    obtain ⟨D9, hD9⟩ : ∃ D9, D9 = D6 := ⟨_, rfl⟩
    have hc9 : CalmN 3 D9 := by rw [hD9]; exact hc6
    have hp9 : D9.pend = [] := by rw [hD9]; exact hp6
    rw [← hD9] at hd9
    have hF9' : ∀ k ∈ F9, sz w + 2 ≤ k := fun k hk => by
      rcases hg9.new k hk with h | h
      · exact hF5' k h
      · have := g6.size; have := q8.size; omega
    have nF9 : ∀ k, k < sz w + 2 → k ∉ F9 := fun k hk hk2 => by have := hF9' k hk2; omega
    have y8 : sz w + 1 < sz w8 := q8.lt (lt_of_fz y6)
    have m9 : mm w9 (sz w) = pinL p := by rw [hg9.fr.mm z8 (nF5 _ (by omega)), m8]
    have n9 : mm w9 (sz w + 1) = bs s0 ++ bs s1 := by rw [hg9.fr.mm y8 (nF5 _ (by omega)), q8.mm (lt_of_fz y6) (by simp), n6]
    have x9 : fz w9 (sz w + 1) = false := by rw [hg9.fr.fz y8 (nF5 _ (by omega)), q8.fz (lt_of_fz y6) (by simp), y6]
    have z9 := hg9.fr.lt z8
    have g9 : Fr [] w w9 := ((fW.trans0 g6).trans0 q8).trans hg9.fr (fun k hk => .inr (by have := hF5' k hk; omega))
    have hl9 : pLoad P 87 (pt (sz w) 0) w9 = some (pinV p, w9) := pld87 m9
    try simp (maxDischargeDepth := 8) [↓sC, sB, sM, hl9, -ld87]
    have hck := check_spec (w := w9) (p := p)
    refine hck.call ?_
    rintro _ w10 ⟨rfl, f10⟩
    have m10 : mm w10 (sz w) = pinL p := by rw [f10.mm z9 (by simp), m9]
    have z10 := f10.lt z9
    have y9 : sz w + 1 < sz w9 := lt_of_fz x9
    have y10 := f10.lt y9
    have n10 : mm w10 (sz w + 1) = bs s0 ++ bs s1 := by rw [f10.mm y9 (by simp), n9]
    have x10 : fz w10 (sz w + 1) = false := by rw [f10.fz y9 (by simp), x9]
    have hl10 : pLoad P 87 (pt (sz w) 0) w10 = some (pinV p, w10) := pld87 m10
    try simp (maxDischargeDepth := 8) [↓sC, sB, sM, hkt, hl10, -ld87]
    have hckb := check_spec (w := w10) (p := p)
    refine hckb.call ?_
    rintro _ wb ⟨rfl, fb⟩
    have yb := fb.lt y10
    have nb : mm wb (sz w + 1) = bs s0 ++ bs s1 := by rw [fb.mm y10 (by simp), n10]
    try simp (maxDischargeDepth := 8) [↓sC, sB, sM, hkt]
    refine (crash_spec (kept := []) (hd9.fr0 (f10.trans0 fb)) (.inl ⟨none, 0, rfl, rfl, rfl⟩) (fun _ _ _ => rfl)).call ?_
    rintro _ w20 ⟨hd20, f20⟩
    rw [crash_firm hc9 hp9] at hd20
    obtain ⟨a, hae⟩ : ∃ a, a = s0 := ⟨_, rfl⟩
    obtain ⟨b', hbe⟩ : ∃ b', b' = s1 := ⟨_, rfl⟩
    have ha : a.length = 64 := by rw [hae]; exact h0
    have hb : b'.length = 64 := by rw [hbe]; exact h1
    have hab : view D9 0 = a ∧ view D9 1 = b' := by rw [hD9, hae, hbe]; exact ⟨vw0, vw1⟩
    have m20 : mm w20 (sz w + 1) = bs a ++ bs b' := by rw [f20.mm yb (nF9 _ (by omega)), nb, hae, hbe]
    have z20 : sz w + 1 < sz w20 := f20.lt yb
    have g20 : Fr [] w w20 := ((g9.trans0 f10).trans0 fb).trans f20 (fun k hk => .inr (by have := hF9' k hk; omega))
    try simp (maxDischargeDepth := 8) [↓sC, sB, sM, hkt]
    have hv9' : view D9 2 = t7 := by
      rw [hD9, vw2]
    have hok : ∀ x : Nat, x < 3 → okE D9 (x : Int) = 0 := fun x hx => hc9.ok hx
    have hne : ∀ (s : List UInt8), s.length = 64 → ∀ w, pBin P .neq 25 false (sec s) (sec s) w = some (.bool false, w) := fun s hs w => by rw [nes25 hs hs]; simp
    have hr0 := read_spec (x := ((0 : Nat) : Int)) hd20 (by omega) (by omega)
    rw [hok 0 (by omega)] at hr0
    have e0 : readD D9 ((0 : Nat) : Int) = a := hab.1
    have e1 : readD D9 ((1 : Nat) : Int) = b' := hab.2
    have e2 : readD D9 ((2 : Nat) : Int) = t7 := hv9'
    rw [if_pos rfl, e0] at hr0
    refine hr0.call ?_
    rintro _ w21 ⟨rfl, f21⟩
    obtain ⟨X1, hX1⟩ : ∃ X1, X1 = wr (nw w21 (bs (zb 64)) 25) (sz w21) (bs a) := ⟨_, rfl⟩
    have fX1 : Fr [] w21 X1 := by rw [hX1]; exact ((Fr.refl [] w21).nw _ _).wr (.inr (Nat.le_refl _)) _
    have x1m : mm X1 (sz w21) = bs a := by rw [hX1, mm_wr_same]; simp [sM]
    have x1s : sz w21 < sz X1 := by rw [hX1]; simp [sM]
    have st1 := sec_put (w := w21) ha
    rw [← hX1] at st1
    try simp (maxDischargeDepth := 8) [↓sC, sB, sM, st1, -st25]
    have hr1 := read_spec (x := ((1 : Nat) : Int)) (hd20.fr0 (f21.trans0 fX1)) (by omega) (by omega)
    rw [hok 1 (by omega), if_pos rfl, e1] at hr1
    refine hr1.call ?_
    rintro _ w22 ⟨rfl, f22⟩
    obtain ⟨X2, hX2⟩ : ∃ X2, X2 = wr (nw w22 (bs (zb 64)) 25) (sz w22) (bs b') := ⟨_, rfl⟩
    have fX2 : Fr [] w22 X2 := by rw [hX2]; exact ((Fr.refl [] w22).nw _ _).wr (.inr (Nat.le_refl _)) _
    have x2m : mm X2 (sz w22) = bs b' := by rw [hX2, mm_wr_same]; simp [sM]
    have x2s : sz w22 < sz X2 := by rw [hX2]; simp [sM]
    have st2 := sec_put (w := w22) hb
    rw [← hX2] at st2
    try simp (maxDischargeDepth := 8) [↓sC, sB, sM, st2, -st25]
    have q22 := (((f21.trans0 fX1).trans0 f22).trans0 fX2)
    have hr2 := read_spec (x := ((2 : Nat) : Int)) (hd20.fr0 q22) (by omega) (by omega)
    rw [hok 2 (by omega), if_pos rfl, e2] at hr2
    refine hr2.call ?_
    rintro _ w23 ⟨rfl, f23⟩
    obtain ⟨X3, hX3⟩ : ∃ X3, X3 = wr (nw w23 (bs (zb 64)) 25) (sz w23) (bs t7) := ⟨_, rfl⟩
    have fX3 : Fr [] w23 X3 := by rw [hX3]; exact ((Fr.refl [] w23).nw _ _).wr (.inr (Nat.le_refl _)) _
    have x3m : mm X3 (sz w23) = bs t7 := by rw [hX3, mm_wr_same]; simp [sM]
    have st3 := sec_put (w := w23) h7
    rw [← hX3] at st3
    have q23 := (q22.trans0 f23).trans0 fX3
    have lA := two_lo ha (show mm X3 (sz w + 1) = bs a ++ bs b' by rw [q23.mm z20 (by simp), m20]) hb
    have lB := two_hi ha (show mm X3 (sz w + 1) = bs a ++ bs b' by rw [q23.mm z20 (by simp), m20]) hb
    have q13' : Fr [] X1 X3 := ((f22.trans0 fX2).trans0 f23).trans0 fX3
    have q23' : Fr [] X2 X3 := f23.trans0 fX3
    have x1m' : mm X3 (sz w21) = bs a := by rw [q13'.mm x1s (by simp), x1m]
    have x2m' : mm X3 (sz w22) = bs b' := by rw [q23'.mm x2s (by simp), x2m]
    have x1l := q13'.lt x1s
    have x2l := q23'.lt x2s
    have la := sec_cell x1m' ha
    have lb := sec_cell x2m' hb
    have lc := sec_cell x3m h7
    try simp (maxDischargeDepth := 8) [↓sC, sB, sM, st3, la, lb, lc, lA, lB, hne a ha, hne b' hb, hne t7 h7, -st25, -ld25, -nes25]
    refine (get_spec (hd20.fr0 q23) (reach_calm hc9 (by omega))).call ?_
    rintro xg w24 ⟨hxg, f24⟩
    rw [hab.1, hab.2] at hxg
    have qq24 : ∀ (q : PinP), ∃ Y, Y = wr (nw w24 (pinL zPin) 87) (sz w24) (pinL q) ∧ Fr [] w24 Y ∧ mm Y (sz w24) = pinL q ∧ sz w24 < sz Y ∧ pStore P 87 (pt (sz w24) 0) (pinV q) (nw w24 [Value.int .i64 0, Value.int .i64 0, Value.int .i64 0, Value.int .i64 0, Value.int .i64 0, Value.int .i64 0] 87) = some Y := fun q => by
      refine ⟨_, rfl, ((Fr.refl [] w24).nw _ _).wr (.inr (Nat.le_refl _)) _, by rw [mm_wr_same (by simp [sM])], by simp [sM], pst87 (by simp [sM]) (by simp [sM])⟩
    have hnw := @newest_spec
    cases hg : getM a b' with
    | none =>
      rw [hg] at hxg
      obtain rfl : xg = .tuple #[pinV zPin, i64 6] := by
        rcases hxg with ⟨q, hq, _⟩ | ⟨_, hx⟩
        · cases hq
        · exact hx
      obtain ⟨Y, hY, fY, mY, sY, stY⟩ := qq24 zPin
      have q24 := f24.trans0 fY
      have la' := sec_cell (show mm Y (sz w21) = bs a by rw [q24.mm x1l (by simp), x1m']) ha
      have lb' := sec_cell (show mm Y (sz w22) = bs b' by rw [q24.mm x2l (by simp), x2m']) hb
      try simp (maxDischargeDepth := 8) [↓sC, sB, sM, stY, la', lb', -st87, -ld25]
      refine (newest_spec ha hb).call ?_
      rintro _ w25 ⟨⟨qn, bn, rfl, hqn⟩, f25⟩
      rw [hg] at hqn
      obtain rfl : bn = false := by
        cases bn with
        | false => rfl
        | true => cases hqn
      obtain ⟨V, hV⟩ : ∃ V, V = wr (nw w25 (pinL zPin) 93) (sz w25) (pinL qn) := ⟨_, rfl⟩
      have fV : Fr [] w25 V := by rw [hV]; exact ((Fr.refl [] w25).nw _ _).wr (.inr (Nat.le_refl _)) _
      have stV : pStore P 93 (pt (sz w25) 0) (pinV qn) (nw w25 [Value.int .i64 0, Value.int .i64 0, Value.int .i64 0, Value.int .i64 0, Value.int .i64 0, Value.int .i64 0] 93) = some V := by rw [hV]; exact pst93 (by simp [sM]) (by simp [sM])
      have fVd := fV.drew
      have lY : pLoad P 87 (pt (sz w24) 0) (drew V) = some (pinV zPin, drew V) := pld87 (by rw [fVd.mm (f25.lt sY) (by simp), f25.mm sY (by simp), mY])
      have heq : ∀ w, pBin P .eql 87 false (pinV zPin) (pinV zPin) w = some (.bool true, w) := fun w => by rw [eqPin]; simp
      try simp (maxDischargeDepth := 8) [↓sC, sB, sM, stV, lY, heq, -st93, -ld87]
      exact (((((g20.trans0 q23).trans0 q24).trans0 f25).trans0 fVd))
    | some q =>
      rw [hg] at hxg
      obtain rfl : xg = .tuple #[pinV q, i64 0] := by
        rcases hxg with ⟨q', hq', hx⟩ | ⟨hno, _⟩
        · simp only [Option.some.injEq] at hq'; subst hq'; exact hx
        · cases hno
      obtain ⟨Y, hY, fY, mY, sY, stY⟩ := qq24 q
      have q24 := f24.trans0 fY
      have la' := sec_cell (show mm Y (sz w21) = bs a by rw [q24.mm x1l (by simp), x1m']) ha
      have lb' := sec_cell (show mm Y (sz w22) = bs b' by rw [q24.mm x2l (by simp), x2m']) hb
      try simp (maxDischargeDepth := 8) [↓sC, sB, sM, stY, la', lb', -st87, -ld25]
      refine (newest_spec ha hb).call ?_
      rintro _ w25 ⟨⟨qn, bn, rfl, hqn⟩, f25⟩
      rw [hg] at hqn
      obtain ⟨rfl, rfl⟩ : bn = true ∧ qn = q := by
        cases bn with
        | false => cases hqn
        | true => simp only [if_true, Option.some.injEq] at hqn; exact ⟨rfl, hqn.symm⟩
      obtain ⟨V, hV⟩ : ∃ V, V = wr (nw w25 (pinL zPin) 93) (sz w25) (pinL qn) := ⟨_, rfl⟩
      have fV : Fr [] w25 V := by rw [hV]; exact ((Fr.refl [] w25).nw _ _).wr (.inr (Nat.le_refl _)) _
      have vm : mm V (sz w25) = pinL qn := by rw [hV, mm_wr_same (by simp [sM])]
      have vs : sz w25 < sz V := by rw [hV]; simp [sM]
      have stV : pStore P 93 (pt (sz w25) 0) (pinV qn) (nw w25 [Value.int .i64 0, Value.int .i64 0, Value.int .i64 0, Value.int .i64 0, Value.int .i64 0, Value.int .i64 0] 93) = some V := by rw [hV]; exact pst93 (by simp [sM]) (by simp [sM])
      have fVd := fV.drew
      have lY : pLoad P 87 (pt (sz w24) 0) (drew V) = some (pinV qn, drew V) := pld87 (by rw [fVd.mm (f25.lt sY) (by simp), f25.mm sY (by simp), mY])
      have lV : pLoad P 93 (pt (sz w25) 0) (drew V) = some (pinV qn, drew V) := pld93 (by rw [mm_drew, vm])
      try simp (maxDischargeDepth := 8) [↓sC, sB, sM, stV, lY, lV, -st93, -ld87, -ld93]
      refine (of22_spec (p := qn)).call ?_
      rintro _ w26 ⟨rfl, f26⟩
      have heq : ∀ w, pBin P .eql 93 false (pinV qn) (pinV qn) w = some (.bool true, w) := fun w => by rw [eqRefPin]; simp
      have lV' : pLoad P 93 (pt (sz w25) 0) w26 = some (pinV qn, w26) := pld93 (by rw [f26.mm (by rw [sz_drew]; exact vs) (by simp), mm_drew, vm])
      try simp (maxDischargeDepth := 8) [↓sC, sB, sM, lV', heq, -ld93]
      exact (((((g20.trans0 q23).trans0 q24).trans0 f25).trans0 fVd)).trans0 f26
end Go.Proofs.Yticncfkpfpkfoaa
