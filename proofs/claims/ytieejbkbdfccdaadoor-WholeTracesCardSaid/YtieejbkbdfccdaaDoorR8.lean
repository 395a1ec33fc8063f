/- A record as bytes. -/
import Derived.Test.YtieejbkbdfccdaaDoorSim
import Derived.Test.YtieejbkbdfccdaaDoorR7
set_option linter.unusedVariables false
set_option linter.unusedSimpArgs false
namespace Go.Proofs.YtieejbkbdfccdaaDoor
open Go

theorem names_le {r : RecP} (hk : RecOk r) (ho : okR r) : ∀ x ∈ r.list, okI x ∧ x.name.length ≤ 16 := by
  intro x hx
  refine ⟨ho.2.2.2.2.2.2 x hx, ?_⟩
  obtain ⟨i, hi⟩ := List.getElem?_of_mem hx
  have hil := (List.getElem?_eq_some_iff.1 hi).1
  by_cases h8 : 8 ≤ r.kind
  · exact ((hk.cap h8).2.2.2 i hil x hi).1
  · have h0 : r.list = [] := by
      have hk' := hk.only
      have h1 := hk.k1
      rcases five_kinds hk.k1 hk.k9 hk.only with ⟨_, _, _, _, _, _, _, h⟩ | ⟨_, _, _, _, _, _, _, h⟩ | ⟨_, _, _, _, _, h⟩ | ⟨_, _, _, _, _, _, _, h⟩ | ⟨h, _⟩
      all_goals first | exact h | omega
    rw [h0] at hx; cases hx
theorem wrap_kind {k : Int} (h1 : 0 ≤ k) (h2 : k < 18446744073709551616) : IntKind.u64.wrap k = k := by
  have e : k = ((k.toNat : Nat) : Int) := by omega
  rw [e, wrapu (by unfold H63; omega)]
theorem stUi {w : World} {b : Nat} {B : List UInt8} {L : List PartP} {F : List Nat} {k : Int} (h : IsW w b (B ++ encAll L) F) (hB : B.length ≤ 1000) (hL : okPL L) (hl : L.length ≤ 200) (hn : k.toNat < 2 * H63) (h0 : 0 ≤ k) :
    Ret P 50 #[pt b 0, .int .u64 k] w fun v w' => v = .tuple #[] ∧ ∃ F', More w b (B ++ encAll (L ++ [uP k.toNat])) F w' F' := by
  have e : Value.int .u64 k = u64 k.toNat := by show Value.int .u64 k = Value.int .u64 ((k.toNat : Nat) : Int); congr 1; omega
  rw [e]; exact stU h hB hL hl hn
theorem rd_lt {w : World} {v : Value} {n : Nat} {cs : List Value} (h : RdV w v n cs) (h0 : 0 < n) {c : Nat} (hc : v.ownBlock = some c) : c < sz w := by
  rcases h with ⟨_, _, _, h2, _⟩ | ⟨b, o, c', rfl, _, _, h3, _⟩
  · omega
  · simp [Value.ownBlock] at hc
    omega
set_option maxHeartbeats 4000000 in
set_option maxRecDepth 20000 in
theorem put_spec {w0 w : World} {b : Nat} {B : List UInt8} {F : List Nat} {r : RecP} {a : Option Addr} {c : Nat} (hr0 : IsRec w0 (.slice a r.list.length c) r) (hO : Own w0 w F) (hw : IsW w b B F) (hok : RecOk r) (hB : B.length ≤ 1000) :
    Ret P 27 #[pt b 0, .agg (rcV r (.slice a r.list.length c)).toArray] w fun v w' => v = .tuple #[] ∧ ∃ F', More w b (B ++ encAll (recP r)) F w' F' := by
  refine F27ok ?_
  unfold F27
  have hlt := hw
  obtain ⟨_, _, _, _, _, hbF, hFs⟩ := hlt
  have hr := hr0.fr0 hO.fr
  obtain ⟨W, hW⟩ : ∃ W, W = nw w (rcV r (.slice a r.list.length c)) 25 := ⟨_, rfl⟩
  have fW : Fr [] w W := by rw [hW]; exact (Fr.refl [] w).nw _ _
  have hm : mm W (sz w) = rcV r (.slice a r.list.length c) := by rw [hW]; simp [mm_nw]
  have hsW : sz w < sz W := by rw [hW, sz_nw]; omega
  try simp (maxDischargeDepth := 8) [↓sC, sB, sM, rcC, ← hW, hm]
  refine shaped_spec.call ?_
  rintro _ w1 ⟨rfl, f1⟩
  have hs1 := f1.lt hsW
  have hs5 : ∀ a b c d e, ∀ l : List Value, l.length = 5 → splice l 0 (shB a b c d e) = shB a b c d e := fun a b c d e l hl => splice_full (by rw [hl]; rfl)
  have hkw := wrap_kind (k := r.kind) (by have := hok.k1; omega) (by have := hok.k9; omega)
  have hkn : r.kind.toNat < 2 * H63 := by have := hok.k9; unfold H63; omega
  have hkk := hok.k1
  have l1 : (2 : Nat) ≤ 200 := by omega
  rcases five_kinds hok.k1 hok.k9 hok.only with ⟨hk, hs, c1, c2, c3, c4, c5, c6⟩ | ⟨hk, hs, c1, c2, c3, c4, c5, c6⟩ | ⟨hk, hs, c1, c4, c5, c6⟩ | ⟨hk, hs, c1, c2, c3, c4, c5, c6⟩ | ⟨hk, hs, c1, c2, c3, c4, c5⟩
  · rw [hs]
    obtain ⟨W2, hW2⟩ : ∃ W2, W2 = wr (nw w1 [Value.bool false, Value.bool false, Value.bool false, Value.bool false, Value.bool false] 108) (sz w1) (shB true false false false false) := ⟨_, rfl⟩
    have fW2 : Fr [] w1 W2 := by rw [hW2]; exact ((Fr.refl [] w1).nw _ _).wr (.inr (Nat.le_refl _)) _
    have hm2 : mm W2 (sz w) = rcV r (.slice a r.list.length c) := by rw [fW2.mm hs1 (by simp), f1.mm hsW (by simp), hm]
    have hz2 : mm W2 (sz w1) = shB true false false false false := by rw [hW2]; exact mm_wr_same (by simp [fz_nw]) _
    have hsz2 : sz w1 < sz W2 := by rw [hW2, sz_wr, sz_nw]; omega
    have hsz1 : sz w < sz W2 := by omega
    have hsw1 := fW.size
    have hsw2 := f1.size
    have g2 : Fr [] w W2 := (fW.trans0 f1).trans0 fW2
    have hpF : sz w ∉ F := fun h => by have := hFs _ h; omega
    have hqF : sz w1 ∉ F := fun h => by have := hFs _ h; omega
    have hw2 : IsW W2 b (B ++ encAll []) F := by rw [encAll_nil, List.append_nil]; exact hw.fr0 g2
    try simp (maxDischargeDepth := 8) [↓sC, sB, sM, hs5, shB_one, ← hW2, hm2, hz2, hkw]
    refine (stUi hw2 hB (fun p hp => by cases hp) (by simp) hkn (by omega)).call ?_
    rintro _ w3 ⟨rfl, F3, hM3⟩
    have m3 := hM3
    have hp3 : mm w3 (sz w) = rcV r (.slice a r.list.length c) := by rw [m3.keep hsz1 hpF, hm2]
    have hz3 : mm w3 (sz w1) = shB true false false false false := by rw [m3.keep hsz2 hqF, hz2]
    try simp (maxDischargeDepth := 8) [↓sC, sB, sM, hp3, hz3]
    refine (stS m3.is hB (ok_uP hkn) (by simp) (hok.text hk)).call ?_
    rintro _ w4 ⟨rfl, F4, hM4⟩
    have m4 := m3.trans hM4
    have hp4 : mm w4 (sz w) = rcV r (.slice a r.list.length c) := by rw [m4.keep hsz1 hpF, hm2]
    have hz4 : mm w4 (sz w1) = shB true false false false false := by rw [m4.keep hsz2 hqF, hz2]
    try simp (maxDischargeDepth := 8) [↓sC, sB, sM, hp4, hz4]
    have hrp : recP r = [uP r.kind.toNat, sP r.text] := by simp [recP, hk]
    rw [hrp]
    exact ⟨F4, m4.is, g2.mono (T := F) (by simp) |>.trans m4.fr (fun k hk => .inl hk), fun k hk => (m4.new k hk).imp id fun h => Nat.le_trans g2.size h⟩
  · rw [hs]
    obtain ⟨W2, hW2⟩ : ∃ W2, W2 = wr (nw w1 [Value.bool false, Value.bool false, Value.bool false, Value.bool false, Value.bool false] 108) (sz w1) (shB false true false false false) := ⟨_, rfl⟩
    have fW2 : Fr [] w1 W2 := by rw [hW2]; exact ((Fr.refl [] w1).nw _ _).wr (.inr (Nat.le_refl _)) _
    have hm2 : mm W2 (sz w) = rcV r (.slice a r.list.length c) := by rw [fW2.mm hs1 (by simp), f1.mm hsW (by simp), hm]
    have hz2 : mm W2 (sz w1) = shB false true false false false := by rw [hW2]; exact mm_wr_same (by simp [fz_nw]) _
    have hsz2 : sz w1 < sz W2 := by rw [hW2, sz_wr, sz_nw]; omega
    have hsz1 : sz w < sz W2 := by omega
    have hsw1 := fW.size
    have hsw2 := f1.size
    have g2 : Fr [] w W2 := (fW.trans0 f1).trans0 fW2
    have hpF : sz w ∉ F := fun h => by have := hFs _ h; omega
    have hqF : sz w1 ∉ F := fun h => by have := hFs _ h; omega
    have hw2 : IsW W2 b (B ++ encAll []) F := by rw [encAll_nil, List.append_nil]; exact hw.fr0 g2
    try simp (maxDischargeDepth := 8) [↓sC, sB, sM, hs5, shB_one, ← hW2, hm2, hz2, hkw]
    refine (stUi hw2 hB (fun p hp => by cases hp) (by simp) hkn (by omega)).call ?_
    rintro _ w3 ⟨rfl, F3, hM3⟩
    have m3 := hM3
    have hp3 : mm w3 (sz w) = rcV r (.slice a r.list.length c) := by rw [m3.keep hsz1 hpF, hm2]
    have hz3 : mm w3 (sz w1) = shB false true false false false := by rw [m3.keep hsz2 hqF, hz2]
    try simp (maxDischargeDepth := 8) [↓sC, sB, sM, hp3, hz3]
    refine (stI m3.is hB (ok_uP hkn) (by simp) (hr.2.2.1)).call ?_
    rintro _ w4 ⟨rfl, F4, hM4⟩
    have m4 := m3.trans hM4
    have hp4 : mm w4 (sz w) = rcV r (.slice a r.list.length c) := by rw [m4.keep hsz1 hpF, hm2]
    have hz4 : mm w4 (sz w1) = shB false true false false false := by rw [m4.keep hsz2 hqF, hz2]
    try simp (maxDischargeDepth := 8) [↓sC, sB, sM, hp4, hz4]
    have hrp : recP r = [uP r.kind.toNat, iP r.num] := by unfold recP; rw [if_neg (by omega), if_neg (by omega), if_pos hk]; rfl
    rw [hrp]
    exact ⟨F4, m4.is, g2.mono (T := F) (by simp) |>.trans m4.fr (fun k hk => .inl hk), fun k hk => (m4.new k hk).imp id fun h => Nat.le_trans g2.size h⟩
  · rw [hs]
    obtain ⟨W2, hW2⟩ : ∃ W2, W2 = wr (nw w1 [Value.bool false, Value.bool false, Value.bool false, Value.bool false, Value.bool false] 108) (sz w1) (shB false true true false false) := ⟨_, rfl⟩
    have fW2 : Fr [] w1 W2 := by rw [hW2]; exact ((Fr.refl [] w1).nw _ _).wr (.inr (Nat.le_refl _)) _
    have hm2 : mm W2 (sz w) = rcV r (.slice a r.list.length c) := by rw [fW2.mm hs1 (by simp), f1.mm hsW (by simp), hm]
    have hz2 : mm W2 (sz w1) = shB false true true false false := by rw [hW2]; exact mm_wr_same (by simp [fz_nw]) _
    have hsz2 : sz w1 < sz W2 := by rw [hW2, sz_wr, sz_nw]; omega
    have hsz1 : sz w < sz W2 := by omega
    have hsw1 := fW.size
    have hsw2 := f1.size
    have g2 : Fr [] w W2 := (fW.trans0 f1).trans0 fW2
    have hpF : sz w ∉ F := fun h => by have := hFs _ h; omega
    have hqF : sz w1 ∉ F := fun h => by have := hFs _ h; omega
    have hw2 : IsW W2 b (B ++ encAll []) F := by rw [encAll_nil, List.append_nil]; exact hw.fr0 g2
    try simp (maxDischargeDepth := 8) [↓sC, sB, sM, hs5, shB_one, ← hW2, hm2, hz2, hkw]
    refine (stUi hw2 hB (fun p hp => by cases hp) (by simp) hkn (by omega)).call ?_
    rintro _ w3 ⟨rfl, F3, hM3⟩
    have m3 := hM3
    have hp3 : mm w3 (sz w) = rcV r (.slice a r.list.length c) := by rw [m3.keep hsz1 hpF, hm2]
    have hz3 : mm w3 (sz w1) = shB false true true false false := by rw [m3.keep hsz2 hqF, hz2]
    try simp (maxDischargeDepth := 8) [↓sC, sB, sM, hp3, hz3]
    refine (stI m3.is hB (ok_uP hkn) (by simp) (hr.2.2.2.1)).call ?_
    rintro _ w4 ⟨rfl, F4, hM4⟩
    have m4 := m3.trans hM4
    have hp4 : mm w4 (sz w) = rcV r (.slice a r.list.length c) := by rw [m4.keep hsz1 hpF, hm2]
    have hz4 : mm w4 (sz w1) = shB false true true false false := by rw [m4.keep hsz2 hqF, hz2]
    try simp (maxDischargeDepth := 8) [↓sC, sB, sM, hp4, hz4]
    refine (stI m4.is hB (okPL_app (ok_uP hkn) (ok_iP hr.2.2.2.1)) (by simp) (hr.2.2.2.2.1)).call ?_
    rintro _ w5 ⟨rfl, F5, hM5⟩
    have m5 := m4.trans hM5
    have hp5 : mm w5 (sz w) = rcV r (.slice a r.list.length c) := by rw [m5.keep hsz1 hpF, hm2]
    have hz5 : mm w5 (sz w1) = shB false true true false false := by rw [m5.keep hsz2 hqF, hz2]
    try simp (maxDischargeDepth := 8) [↓sC, sB, sM, hp5, hz5]
    refine (stI m5.is hB (okPL_app (okPL_app (ok_uP hkn) (ok_iP hr.2.2.2.1)) (ok_iP hr.2.2.2.2.1)) (by simp) (hr.2.2.1)).call ?_
    rintro _ w6 ⟨rfl, F6, hM6⟩
    have m6 := m5.trans hM6
    have hp6 : mm w6 (sz w) = rcV r (.slice a r.list.length c) := by rw [m6.keep hsz1 hpF, hm2]
    have hz6 : mm w6 (sz w1) = shB false true true false false := by rw [m6.keep hsz2 hqF, hz2]
    try simp (maxDischargeDepth := 8) [↓sC, sB, sM, hp6, hz6]
    have hrp : recP r = [uP r.kind.toNat, iP r.low, iP r.high, iP r.num] := by simp [recP, hk]
    rw [hrp]
    exact ⟨F6, m6.is, g2.mono (T := F) (by simp) |>.trans m6.fr (fun k hk => .inl hk), fun k hk => (m6.new k hk).imp id fun h => Nat.le_trans g2.size h⟩
  · rw [hs]
    obtain ⟨W2, hW2⟩ : ∃ W2, W2 = wr (nw w1 [Value.bool false, Value.bool false, Value.bool false, Value.bool false, Value.bool false] 108) (sz w1) (shB false false false true false) := ⟨_, rfl⟩
    have fW2 : Fr [] w1 W2 := by rw [hW2]; exact ((Fr.refl [] w1).nw _ _).wr (.inr (Nat.le_refl _)) _
    have hm2 : mm W2 (sz w) = rcV r (.slice a r.list.length c) := by rw [fW2.mm hs1 (by simp), f1.mm hsW (by simp), hm]
    have hz2 : mm W2 (sz w1) = shB false false false true false := by rw [hW2]; exact mm_wr_same (by simp [fz_nw]) _
    have hsz2 : sz w1 < sz W2 := by rw [hW2, sz_wr, sz_nw]; omega
    have hsz1 : sz w < sz W2 := by omega
    have hsw1 := fW.size
    have hsw2 := f1.size
    have g2 : Fr [] w W2 := (fW.trans0 f1).trans0 fW2
    have hpF : sz w ∉ F := fun h => by have := hFs _ h; omega
    have hqF : sz w1 ∉ F := fun h => by have := hFs _ h; omega
    have hw2 : IsW W2 b (B ++ encAll []) F := by rw [encAll_nil, List.append_nil]; exact hw.fr0 g2
    try simp (maxDischargeDepth := 8) [↓sC, sB, sM, hs5, shB_one, ← hW2, hm2, hz2, hkw]
    refine (stUi hw2 hB (fun p hp => by cases hp) (by simp) hkn (by omega)).call ?_
    rintro _ w3 ⟨rfl, F3, hM3⟩
    have m3 := hM3
    have hp3 : mm w3 (sz w) = rcV r (.slice a r.list.length c) := by rw [m3.keep hsz1 hpF, hm2]
    have hz3 : mm w3 (sz w1) = shB false false false true false := by rw [m3.keep hsz2 hqF, hz2]
    try simp (maxDischargeDepth := 8) [↓sC, sB, sM, hp3, hz3]
    refine (stF m3.is hB (ok_uP hkn) (by simp) (hr.2.2.2.2.2.1)).call ?_
    rintro _ w4 ⟨rfl, F4, hM4⟩
    have m4 := m3.trans hM4
    have hp4 : mm w4 (sz w) = rcV r (.slice a r.list.length c) := by rw [m4.keep hsz1 hpF, hm2]
    have hz4 : mm w4 (sz w1) = shB false false false true false := by rw [m4.keep hsz2 hqF, hz2]
    try simp (maxDischargeDepth := 8) [↓sC, sB, sM, hp4, hz4]
    have hrp : recP r = [uP r.kind.toNat, fP r.real] := by unfold recP; rw [if_neg (by omega), if_neg (by omega), if_neg (by omega), if_pos hk]; rfl
    rw [hrp]
    exact ⟨F4, m4.is, g2.mono (T := F) (by simp) |>.trans m4.fr (fun k hk => .inl hk), fun k hk => (m4.new k hk).imp id fun h => Nat.le_trans g2.size h⟩
  · rw [hs]
    obtain ⟨W2, hW2⟩ : ∃ W2, W2 = wr (nw w1 [Value.bool false, Value.bool false, Value.bool false, Value.bool false, Value.bool false] 108) (sz w1) (shB false false false false true) := ⟨_, rfl⟩
    have fW2 : Fr [] w1 W2 := by rw [hW2]; exact ((Fr.refl [] w1).nw _ _).wr (.inr (Nat.le_refl _)) _
    have hm2 : mm W2 (sz w) = rcV r (.slice a r.list.length c) := by rw [fW2.mm hs1 (by simp), f1.mm hsW (by simp), hm]
    have hz2 : mm W2 (sz w1) = shB false false false false true := by rw [hW2]; exact mm_wr_same (by simp [fz_nw]) _
    have hsz2 : sz w1 < sz W2 := by rw [hW2, sz_wr, sz_nw]; omega
    have hsz1 : sz w < sz W2 := by omega
    have hsw1 := fW.size
    have hsw2 := f1.size
    have g2 : Fr [] w W2 := (fW.trans0 f1).trans0 fW2
    have hpF : sz w ∉ F := fun h => by have := hFs _ h; omega
    have hqF : sz w1 ∉ F := fun h => by have := hFs _ h; omega
    have hw2 : IsW W2 b (B ++ encAll []) F := by rw [encAll_nil, List.append_nil]; exact hw.fr0 g2
    try simp (maxDischargeDepth := 8) [↓sC, sB, sM, hs5, shB_one, ← hW2, hm2, hz2, hkw]
    refine (stUi hw2 hB (fun p hp => by cases hp) (by simp) hkn (by omega)).call ?_
    rintro _ w3 ⟨rfl, F3, hM3⟩
    have m3 := hM3
    obtain ⟨q1, q2, q3, q4⟩ := hok.cap (by omega)
    have hcn : r.cap.toNat < 2 * H63 := by unfold H63; omega
    have hln : r.list.length < 2 * H63 := by unfold H63; omega
    have hcw := wrap_kind (k := r.cap) (by omega) (by omega)
    have hlw : IntKind.u64.wrap (r.list.length : Int) = (r.list.length : Int) := wrapu hln
    have hp3 : mm w3 (sz w) = rcV r (.slice a r.list.length c) := by rw [m3.keep hsz1 hpF, hm2]
    have hz3 : mm w3 (sz w1) = shB false false false false true := by rw [m3.keep hsz2 hqF, hz2]
    try simp (maxDischargeDepth := 8) [↓sC, sB, sM, hp3, hz3, hcw, hlw]
    refine (stUi m3.is hB (ok_uP hkn) (by simp) (hcn) (by omega)).call ?_
    rintro _ w4 ⟨rfl, F4, hM4⟩
    have m4 := m3.trans hM4
    have hp4 : mm w4 (sz w) = rcV r (.slice a r.list.length c) := by rw [m4.keep hsz1 hpF, hm2]
    have hz4 : mm w4 (sz w1) = shB false false false false true := by rw [m4.keep hsz2 hqF, hz2]
    try simp (maxDischargeDepth := 8) [↓sC, sB, sM, hp4, hz4, hcw, hlw]
    refine (stU m4.is hB (okPL_app (ok_uP hkn) (ok_uP hcn)) (by simp) (hln)).call ?_
    rintro _ w5 ⟨rfl, F5, hM5⟩
    have m5 := m4.trans hM5
    have hp5 : mm w5 (sz w) = rcV r (.slice a r.list.length c) := by rw [m5.keep hsz1 hpF, hm2]
    have hz5 : mm w5 (sz w1) = shB false false false false true := by rw [m5.keep hsz2 hqF, hz2]
    try simp (maxDischargeDepth := 8) [↓sC, sB, sM, hp5, hz5]
    have hnl := names_le hok hr.2
    have hlvs : 0 < r.list.length → ∀ k, (Value.slice a r.list.length c).ownBlock = some k → k < sz w0 := fun h k hk => rd_lt hr0.1 h hk
    have hrp : recP r = [uP r.kind.toNat, uP r.cap.toNat, uP r.list.length] ++ r.list.flatMap (itP r.kind) := by unfold recP; rw [if_neg (by omega), if_neg (by omega), if_neg (by omega), if_neg (by omega)]; rfl
    rw [hrp]
    refine loopE_of (PutI W2 b (sz w) B [uP r.kind.toNat, uP r.cap.toNat, uP r.list.length] F (.slice a r.list.length c) r) r.list.length ⟨0, F5, by omega, by omega, by simpa using m5, by simp [put_get, argE_get], by simp [put_get], by simp [put_get], by simp [put_get], by simp [put_get]⟩ ?_
    rintro m e w9 hI
    obtain ⟨j, F9, rfl, hj, m9, e0, e3, e58, e59, e60⟩ := id hI
    by_cases hjl : j < r.list.length
    · exact put_step hB (okPL_app (okPL_app (ok_uP hkn) (ok_uP hcn)) (ok_uP hln)) (by simp) hsz1 hpF hm2 (hr.fr0 g2).1 (fun h k hk hkF => by have := hlvs h k hk; have := hO.own k hkF; omega) (fun h k hk => by have := hlvs h k hk; have := hO.fr.size; have := g2.size; omega) hnl (by omega) hjl hI fun e' w'' hK => ⟨r.list.length - (j + 1), by omega, hK⟩
    have : j = r.list.length := by omega
    subst this
    rw [List.take_length] at m9
    unfold F27B0
    try simp (maxDischargeDepth := 8) [↓sC, sB, sM, e59, e60]
    exact ⟨F9, m9.is, g2.mono (T := F) (by simp) |>.trans m9.fr (fun k hk => .inl hk), fun k hk => (m9.new k hk).imp id fun h => Nat.le_trans g2.size h⟩
end Go.Proofs.YtieejbkbdfccdaaDoor
