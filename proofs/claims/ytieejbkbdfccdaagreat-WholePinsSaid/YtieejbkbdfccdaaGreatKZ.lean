/- Begin: a shelf, and the document's. -/
import Derived.Test.YtieejbkbdfccdaaGreatKY
import Derived.Test.YtieejbkbdfccdaaGreatSim
set_option linter.unusedVariables false
set_option linter.unusedSimpArgs false
namespace Go.Proofs.YtieejbkbdfccdaaGreat
open Go
/-- A block of two cells whose first one is no number: no list, no node lies in it. -/
structure Box (w : World) (q : Nat) (a b : Value) : Prop where
  m : mm w q = [a, b]
  z : fz w q = false
  n : ∀ z : Nat, a ≠ fl z
theorem Box.fr0 {w w' : World} {q : Nat} {a b : Value} (h : Box w q a b) (hf : Fr [] w w') : Box w' q a b := ⟨by rw [hf.mm (lt_of_fz h.z) (by simp), h.m], by rw [hf.fz (lt_of_fz h.z) (by simp), h.z], h.n⟩
theorem Box.ne {w : World} {q p : Nat} {a b x y : Value} (h : Box w q a b) (hne : q ≠ p) (l : List Value) : Box (wr w p l) q a b := ⟨by rw [mm_wr_ne hne, h.m], by rw [fz_wr, h.z], h.n⟩
theorem Box.wr {w : World} {q : Nat} {a b x y : Value} (h : Box w q a b) (hx : ∀ z : Nat, x ≠ fl z) : Box (wr w q [x, y]) q x y := ⟨mm_wr_same h.z _, by rw [fz_wr, h.z], hx⟩
theorem rd_wrB {w : World} {q n : Nat} {v : Value} {L : List ItemP} {a b x y : Value} (h : RdV w v n (flat itemV L)) (hb : Box w q a b) : RdV (wr w q [x, y]) v n (flat itemV L) := by
  rcases h with h | ⟨b', o, c, rfl, h1, h2, h3, h4, h5⟩
  · exact .inl h
  · by_cases hq : b' = q
    · subst hq
      cases L with
      | nil => exact .inr ⟨b', o, c, rfl, h1, h2, by rw [sz_wr]; exact h3, by rw [mm_wr_same hb.z]; rw [hb.m] at h4; simpa using h4, by simp [flat]⟩
      | cons z L =>
        exfalso
        rw [hb.m] at h4 h5
        simp only [flat, List.map_cons, List.flatten_cons, itemV, List.length_append, List.length_cons, List.length_nil] at h4 h5
        obtain rfl : o = 0 := by omega
        have h6 := congrArg (fun l => l[0]?) h5
        simp at h6
        exact hb.n _ h6
    · exact .inr ⟨b', o, c, rfl, h1, h2, by rw [sz_wr]; exact h3, by rw [mm_wr_ne hq]; exact h4, by rw [mm_wr_ne hq]; exact h5⟩
theorem isT_wrB {w : World} {q : Nat} {a b x y : Value} (hq : Box w q a b) : ∀ {t : Tr} {v : Value}, IsT w t v → IsT (wr w q [x, y]) t v
  | .nil, v, h => h
  | .node k r l rt, v, h => by
    obtain ⟨b', la, c, vl, vr, rfl, hb, hmb, hr, hl, hrt⟩ := h
    have hne : b' ≠ q := fun e => by
      rw [e, hq.m] at hmb
      have := congrArg List.length hmb
      simp at this
    exact ⟨b', la, c, vl, vr, rfl, by rw [sz_wr]; exact hb, by rw [mm_wr_ne hne, hmb], ⟨rd_wrB hr.1 hq, hr.2⟩, isT_wrB hq hl, isT_wrB hq hrt⟩
theorem rdP_wrB {w : World} {q n : Nat} {v : Value} {L : List PrP} {a b x y : Value} (h : RdV w v n (flat prV L)) (hb : Box w q a b) : RdV (wr w q [x, y]) v n (flat prV L) := by
  rcases h with h | ⟨b', o, c, rfl, h1, h2, h3, h4, h5⟩
  · exact .inl h
  · by_cases hq : b' = q
    · subst hq
      cases L with
      | nil => exact .inr ⟨b', o, c, rfl, h1, h2, by rw [sz_wr]; exact h3, by rw [mm_wr_same hb.z]; rw [hb.m] at h4; simpa using h4, by simp [flat]⟩
      | cons z L =>
        exfalso
        rw [hb.m, fprl] at h4
        simp only [List.length_cons, List.length_nil] at h4
        omega
    · exact .inr ⟨b', o, c, rfl, h1, h2, by rw [sz_wr]; exact h3, by rw [mm_wr_ne hq]; exact h4, by rw [mm_wr_ne hq]; exact h5⟩
theorem refS_wrB {w : World} {q room : Nat} {v : Value} {L : List PrP} {a b x y : Value} (h : RefS w v room L) (hb : Box w q a b) : RefS (wr w q [x, y]) v room L := by
  obtain ⟨sa, sc, rfl, h1, h2⟩ := h
  exact ⟨sa, sc, rfl, rdP_wrB h1 hb, fun p hp => ⟨rd_wrB (h2 p hp).1 hb, (h2 p hp).2⟩⟩
def KeyOk (L : List KR) : Prop := ∀ p ∈ L, 1 ≤ p.1.length ∧ p.1.length ≤ 24 ∧ RecOk p.2
def BgI (w0 : World) (b4 b6 b8 : Nat) (pv : Value) (KL : List PrP) (m : Nat) (e : Env) (w' : World) : Prop :=
  ∃ (j : Nat) (t : Tr) (v : Value) (L : List PrP) (sa : Option Addr) (sc : Nat) (x4 y4 : Value), m = KL.length - j ∧ j ≤ KL.length ∧ Fr [] w0 w' ∧ Box w' b6 v (i64 60) ∧ Box w' b8 (.slice sa L.length sc) (i64 60) ∧ Box w' b4 x4 y4 ∧ IsT w' t v ∧ RefS w' (.agg #[.slice sa L.length sc, i64 60]) 60 L ∧ L.map kr = t.ino ∧ SrtK t.ino ∧ KeyOk t.ino ∧ t.size ≤ j ∧
    e 1 = pv ∧ e 4 = pt b4 0 ∧ e 6 = pt b6 0 ∧ e 8 = pt b8 0 ∧ e 26 = pv ∧ e 27 = i64 KL.length ∧ e 28 = i64 j ∧ e 5 = .pointer none
end Go.Proofs.YtieejbkbdfccdaaGreat

set_option linter.unusedVariables false
set_option linter.unusedSimpArgs false
namespace Go.Proofs.YtieejbkbdfccdaaGreat
open Go
theorem IsT.nofl {w : World} {t : Tr} {v : Value} (h : IsT w t v) : ∀ z : Nat, v ≠ fl z := fun z => by
  rcases h.val with rfl | ⟨b, rfl⟩ <;> exact fun e => by cases e
theorem KeyOk.shT {t : Tr} (h : KeyOk t.ino) (hs : SrtK t.ino) (hn : t.size ≤ 5000) : ShT t := ⟨hs, fun p hp => (h p hp).2.2, hn⟩
theorem insL_keyOk {key : List UInt8} {r : RecP} {L : List KR} (h : KeyOk L) (hk : 1 ≤ key.length) (hk2 : key.length ≤ 24) (hr : RecOk r) : KeyOk (insL key r L) := fun p hp => by
  rcases insL_mem hp with rfl | hp
  · exact ⟨hk, hk2, hr⟩
  · exact h p hp
set_option maxHeartbeats 8000000 in
set_option maxRecDepth 20000 in
theorem beg_step {w0 : World} {b4 b6 b8 : Nat} {pv : Value} {KL : List PrP} (hpv : RdV w0 pv KL.length (flat prV KL)) (hko : ∀ k ∈ KL, PrOk w0 k) (hl : KL.length ≤ 60) (h46 : b4 ≠ b6) (h48 : b4 ≠ b8) (h68 : b6 ≠ b8) (hb4 : sz w0 ≤ b4) (hb6 : sz w0 ≤ b6) (hb8 : sz w0 ≤ b8) {j : Nat} {e : Env} {w1 : World} (hj : j < KL.length)
    (hI : BgI w0 b4 b6 b8 pv KL (KL.length - j) e w1) {K : KT} (hK : ∀ e' w'', BgI w0 b4 b6 b8 pv KL (KL.length - (j + 1)) e' w'' → K .normal e' w'') (hR : ∀ e' w'' v, v.oneCell' = true → e' 4 = pt b4 0 → e' 5 = .pointer none → Box w'' b4 v (i64 60) → Fr [] w0 w'' → K .ret e' w'') : F5B0 e w1 K := by
  obtain ⟨j', t, v, L, sa, sc, x4, y4, hmj, hj', hf, B6, B8, B4, hT, hRf, hLt, hs, hko2, hsz, e1, e4, e6, e8, e26, e27, e28, e5⟩ := hI
  obtain rfl : j = j' := by omega
  unfold F5B0
  obtain ⟨x, hx⟩ : ∃ x, KL[j]? = some x := ⟨_, List.getElem?_eq_getElem hj⟩
  have hxok := hko x (List.mem_of_getElem? hx)
  obtain ⟨b, o, c', rfl, hb, hin, htk⟩ := flat_at (hpv.fr0 hf) (prV_len KL) (by omega) hx
  have hji : (j : Int) < KL.length := by omega
  have hwj : IntKind.i64.wrap ((j : Int) + 1) = ((j + 1 : Nat) : Int) := wrap64 (by omega) (by omega)
  have hz9 : [Value.string ByteArray.empty, Value.int IntKind.i64 0, Value.int IntKind.i64 0, Value.int IntKind.i64 0, Value.int IntKind.i64 0, Value.float FloatKind.f64 0, Value.int IntKind.i64 0, Value.string ByteArray.empty, Value.slice none 0 0] = prV pz := rfl
  have hsp : splice (prV pz) 0 (prV x) = prV x := splice_full rfl
  have hsp2 : ∀ a b c d : Value, splice [a, b] 0 [c, d] = [c, d] := fun _ _ _ _ => rfl
  have hlen : ∀ l w, pBuiltin P .len #[9] 3 [strB l] w = some (i64 l.length, w) := fun l w => len_strB und9
  obtain ⟨W2, hW2⟩ : ∃ W2, W2 = wr (nw w1 (prV pz) 63) (sz w1) (prV x) := ⟨_, rfl⟩
  have f2 : Fr [] w1 W2 := by rw [hW2]; exact ((Fr.refl [] w1).nw _ _).wr (.inr (Nat.le_refl _)) _
  have q2 : mm W2 (sz w1) = prV x := by rw [hW2]; exact mm_wr_same (by simp [fz_nw]) _
  have s2 : sz w1 < sz W2 := by rw [hW2, sz_wr, sz_nw]; omega
  have hxr := IsRec.fr0 hxok (hf.trans0 f2)
  have hv1 := hT.one
  have hnf := hT.nofl
  -- nothing: the pair is too great
  have nil : ∀ {w' : World} {e' : Env}, Fr [] W2 w' → e' 4 = pt b4 0 → e' 5 = .pointer none → K .ret e' (wr w' b4 [v, i64 60]) := fun hf' h4 h5 =>
    hR _ _ v hv1 h4 h5 ((B4.fr0 (f2.trans0 hf')).wr hnf) (((hf.trans0 f2).trans0 hf').wr (.inr hb4) _)
  rcases (Decidable.em (x.key.length ≤ 100)).symm with hk | hk
  · have hk1 : (100 : Int) < x.key.length := by omega
    have b6' := B6.fr0 f2
    have b4' := B4.fr0 f2
    try simp (maxDischargeDepth := 8) [↓sC, sB, sM, e26, e27, e28, hji, hj, hin, htk, hz9, hsp, prV_oneT, ← hW2, q2, prd, prd', hlen, hk1, hk, e6, e4, b6'.m, b4'.m, b4'.z, hsp2, hv1]
    exact nil (Fr.refl [] W2) (by simp [put_get, e4]) (by simp [put_get])
  have hk1 : ¬ (100 : Int) < x.key.length := by omega
  have hk2 : ¬ 100 < x.key.length := by omega
  try simp (maxDischargeDepth := 8) [↓sC, sB, sM, e26, e27, e28, hji, hj, hin, htk, hz9, hsp, prV_oneT, ← hW2, q2, prd, prd', hlen, hk1, hk2]
  refine (bigR_spec hxr).call ?_
  rintro _ w3 ⟨hv, f3⟩
  have g3 := f2.trans0 f3
  have q3 : mm w3 (sz w1) = prV x := by rw [f3.mm s2 (by simp), q2]
  have s3 : sz w1 < sz w3 := f3.lt s2
  have c6 := B6.fr0 g3
  have c4 := B4.fr0 g3
  have c8 := B8.fr0 g3
  rcases hv.symm with rfl | rfl
  · try simp (maxDischargeDepth := 8) [↓sC, sB, sM, e6, e4, c6.m, c4.m, c4.z, hsp2, hv1]
    exact nil f3 (by simp [put_get, e4]) (by simp [put_get])
  have hsh := KeyOk.shT hko2 hs (by omega)
  try simp (maxDischargeDepth := 8) [↓sC, sB, sM, e6, c6.m, q3, prd, prd']
  refine (setS_spec (room := 60) (hT.fr0 g3) hsh (hxr.fr0 f3) (by omega)).call ?_
  rintro _ w4 ⟨v', t', n4, rfl, hT4, hyes, hno, f4⟩
  have g4 := g3.trans0 f4
  have d6 := B6.fr0 g4
  have d8 := B8.fr0 g4
  have d4 := B4.fr0 g4
  have q4 : mm w4 (sz w1) = prV x := by rw [f4.mm s3 (by simp), q3]
  have s4 : sz w1 < sz w4 := f4.lt s3
  have hv4 := hT4.one
  have hlt6 := lt_of_fz B6.z
  obtain ⟨W5, hW5⟩ : ∃ W5, W5 = wr w4 b6 [v', i64 60] := ⟨_, rfl⟩
  have E6 : Box W5 b6 v' (i64 60) := by rw [hW5]; exact d6.wr hT4.nofl
  have E8 : Box W5 b8 (.slice sa L.length sc) (i64 60) := by rw [hW5]; exact d8.ne (x := v') (y := v') (fun h => h68 h.symm) _
  have E4 : Box W5 b4 x4 y4 := by rw [hW5]; exact d4.ne (x := v') (y := v') h46 _
  have hT5 : IsT W5 t' v' := by rw [hW5]; exact isT_wrB d6 hT4
  have hR5 : RefS W5 (.agg #[.slice sa L.length sc, i64 60]) 60 L := by
    rw [hW5]
    obtain ⟨sa', sc', h1, h2, h3⟩ := hRf
    exact refS_wrB ⟨sa', sc', h1, h2.fr0 g4, fun p hp => IsRec.fr0 (h3 p hp) g4⟩ d6
  have f5 : Fr [b6] w4 W5 := by rw [hW5]; exact (Fr.refl [b6] w4).wr (.inl (by simp)) _
  have F5 : Fr [] w0 W5 := (hf.trans0 g4).trans f5 (fun k hk => .inr (by simp at hk; omega))
  have q5 : mm W5 (sz w1) = prV x := by rw [f5.mm s4 (by simp; omega), q4]
  have s5 : sz w1 < sz W5 := f5.lt s4
  have hx5 : IsRec W5 (.slice x.la x.rec'.list.length x.c) x.rec' := IsRec.fr0 hxok F5
  have hLn : L.length ≤ 60 := by
    have : L.length = t.ino.length := by rw [← hLt, List.length_map]
    rw [this, Tr.size_ino]; omega
  try simp (maxDischargeDepth := 8) [↓sC, sB, sM, e6, e8, d6.m, d6.z, hsp2, hv4, ← hW5, E8.m, q5, prd, prd']
  refine (refSet_spec (key := x.key) hR5 (by rw [hLt]; exact hs) (by omega) hx5 (by omega)).call ?_
  rintro _ w6 ⟨x', L', n6, rfl, hR6, hyes6, hno6, f6⟩
  obtain ⟨sa', sc', rfl, hr6, hp6⟩ := id hR6
  rw [hLt] at hyes6 hno6
  have G6 := E6.fr0 f6
  have G8 := E8.fr0 f6
  have G4 := E4.fr0 f6
  obtain ⟨W7, hW7⟩ : ∃ W7, W7 = wr w6 b8 [.slice sa' L'.length sc', i64 60] := ⟨_, rfl⟩
  have H8 : Box W7 b8 (.slice sa' L'.length sc') (i64 60) := by rw [hW7]; exact G8.wr (fun z h => by cases h)
  have H6 : Box W7 b6 v' (i64 60) := by rw [hW7]; exact G6.ne (x := v') (y := v') h68 _
  have H4 : Box W7 b4 x4 y4 := by rw [hW7]; exact G4.ne (x := v') (y := v') h48 _
  have hT7 : IsT W7 t' v' := by rw [hW7]; exact isT_wrB G8 (hT5.fr0 f6)
  have hR7 : RefS W7 (.agg #[.slice sa' L'.length sc', i64 60]) 60 L' := by rw [hW7]; exact refS_wrB hR6 G8
  have f7 : Fr [b8] w6 W7 := by rw [hW7]; exact (Fr.refl [b8] w6).wr (.inl (by simp)) _
  have F7 : Fr [] w0 W7 := (F5.trans0 f6).trans f7 (fun k hk => .inr (by simp at hk; omega))
  have hone8 : (Value.slice sa' L'.length sc').oneCell' = true := rfl
  try simp (maxDischargeDepth := 8) [↓sC, sB, sM, e8, G8.m, G8.z, hsp2, hone8, ← hW7, e28, hwj, -Int.natCast_add]
  have fin : L'.map kr = t'.ino ∧ SrtK t'.ino ∧ KeyOk t'.ino ∧ t'.size ≤ j + 1 := by
    by_cases hso : setOk 60 t.ino x.key x.rec'
    · have h1 := (hyes hso).2
      refine ⟨by rw [hyes6 hso, h1], by rw [h1]; exact insL_srt hs, by rw [h1]; exact insL_keyOk hko2 hso.1 hso.2.1 hso.2.2.1, ?_⟩
      rw [← Tr.size_ino, h1]
      have := insL_len x.key x.rec' t.ino
      rw [Tr.size_ino] at this
      omega
    · have h1 := hno hso
      exact ⟨by rw [hno6 hso, h1], by rw [h1]; exact hs, by rw [h1]; exact hko2, by rw [← Tr.size_ino, h1, Tr.size_ino]; omega⟩
  exact hK _ _ ⟨j + 1, t', v', L', sa', sc', x4, y4, rfl, by omega, F7, H6, H8, H4, hT7, hR7, fin.1, fin.2.1, fin.2.2.1, fin.2.2.2, by simp [put_get, e1], by simp [put_get, e4], by simp [put_get, e6], by simp [put_get, e8], by simp [put_get, e26], by simp [put_get, e27], by simp [put_get], by simp [put_get, e5]⟩
end Go.Proofs.YtieejbkbdfccdaaGreat

set_option linter.unusedVariables false
set_option linter.unusedSimpArgs false
namespace Go.Proofs.YtieejbkbdfccdaaGreat
open Go
/-- What Begin leaves: nothing, or a shelf and the document's. -/
def BegR (w : World) (x : Value) (w' : World) : Prop :=
  Fr [] w w' ∧ ((∃ v, x = .tuple #[.agg #[v, i64 60], .pointer none] ∧ v.oneCell' = true) ∨
    ∃ (t : Tr) (v : Value) (rb : Nat) (L : List PrP) (sa : Option Addr) (sc : Nat), x = .tuple #[.agg #[v, i64 60], pt rb 0] ∧ IsT w' t v ∧ SrtK t.ino ∧ KeyOk t.ino ∧ t.size ≤ 60 ∧ rb < sz w' ∧ mm w' rb = [.slice sa L.length sc, i64 60] ∧ RefS w' (.agg #[.slice sa L.length sc, i64 60]) 60 L ∧ L.map kr = t.ino)
set_option maxHeartbeats 8000000 in
set_option maxRecDepth 20000 in
theorem begin_spec {w : World} {pa : Option Addr} {pc : Nat} {KL : List PrP} (hpv : RdV w (.slice pa KL.length pc) KL.length (flat prV KL)) (hko : ∀ k ∈ KL, PrOk w k) : Ret P 5 #[i64 60, .slice pa KL.length pc] w fun x w' => BegR w x w' := by
  refine F5ok ?_
  unfold F5
  have hlen : ∀ w, pBuiltin P .len #[22] 3 [.slice pa KL.length pc] w = some (i64 KL.length, w) := fun w => len22
  have hsp2 : ∀ a b c d : Value, splice [a, b] 0 [c, d] = [c, d] := fun _ _ _ _ => rfl
  obtain ⟨W0, hW0⟩ : ∃ W0, W0 = nw w [.pointer none, i64 0] 32 := ⟨_, rfl⟩
  have f0 : Fr [] w W0 := by rw [hW0]; exact (Fr.refl [] w).nw _ _
  have B4 : Box W0 (sz w) (.pointer none) (i64 0) := ⟨by rw [hW0, mm_nw, if_pos rfl], by rw [hW0, fz_nw, if_pos rfl], fun z h => by cases h⟩
  try simp (maxDischargeDepth := 8) [↓sC, sB, sM, ← hW0]
  refine (newS_spec (w := W0) (room := 60) (by omega) (by omega)).call ?_
  rintro _ w1 ⟨rfl, f1⟩
  have g1 := f0.trans0 f1
  have hs1 : sz w < sz w1 := by have := lt_of_fz (B4.fr0 f1).z; exact this
  obtain ⟨W2, hW2⟩ : ∃ W2, W2 = wr (nw w1 [.pointer none, i64 0] 32) (sz w1) [.pointer none, i64 60] := ⟨_, rfl⟩
  have f2 : Fr [] w1 W2 := by rw [hW2]; exact ((Fr.refl [] w1).nw _ _).wr (.inr (Nat.le_refl _)) _
  have B6 : Box W2 (sz w1) (.pointer none) (i64 60) := ⟨by rw [hW2]; exact mm_wr_same (by rw [fz_nw, if_pos rfl]) _, by rw [hW2, fz_wr, fz_nw, if_pos rfl], fun z h => by cases h⟩
  have g2 := g1.trans0 f2
  have B42 := (B4.fr0 f1).fr0 f2
  have hs2 : sz W2 = sz w1 + 1 := by rw [hW2, sz_wr, sz_nw]
  rcases (Decidable.em (KL.length ≤ 60)).symm with hl | hl
  · have h1 : (60 : Int) < KL.length := by omega
    have h2 : 60 < KL.length := by omega
    try simp (maxDischargeDepth := 8) [↓sC, sB, sM, hsp2, ← hW2, hlen, h1, h2, B6.m, B42.m, B42.z]
    exact ⟨g2.wr (.inr (Nat.le_refl _)) _, .inl ⟨.pointer none, rfl, rfl⟩⟩
  have h1 : ¬ (60 : Int) < KL.length := by omega
  have h2 : ¬ 60 < KL.length := by omega
  obtain ⟨W3, hW3⟩ : ∃ W3, W3 = wr (nw W2 [.slice none 0 0, i64 0] 54) (sz W2) [.slice none 0 0, i64 60] := ⟨_, rfl⟩
  have f3 : Fr [] W2 W3 := by rw [hW3]; exact ((Fr.refl [] W2).nw _ _).wr (.inr (Nat.le_refl _)) _
  have B8 : Box W3 (sz W2) (.slice none 0 0) (i64 60) := ⟨by rw [hW3]; exact mm_wr_same (by rw [fz_nw, if_pos rfl]) _, by rw [hW3, fz_wr, fz_nw, if_pos rfl], fun z h => by cases h⟩
  have g3 := g2.trans0 f3
  have C6 := B6.fr0 f3
  have C4 := B42.fr0 f3
  have hge := g1.size
  try simp (maxDischargeDepth := 8) [↓sC, sB, sM, hsp2, ← hW2, hlen, h1, h2, ← hW3]
  refine loopE_of (BgI w (sz w) (sz w1) (sz W2) (.slice pa KL.length pc) KL) KL.length ⟨0, .nil, .pointer none, [], none, 0, .pointer none, i64 0, by omega, by omega, g3, C6, B8, C4, rfl, ⟨none, 0, rfl, .inl ⟨none, 0, rfl, rfl, rfl⟩, by simp⟩, rfl, by simp [SrtK, Tr.ino], by intro p hp; simp [Tr.ino] at hp, by simp [Tr.size], by simp [put_get, argE], by simp [put_get], by simp [put_get], by simp [put_get], by simp [put_get, argE], by simp [put_get], by simp [put_get], by simp [put_get]⟩ ?_
  rintro m e w4 hI
  obtain ⟨j, t, v, L, sa, sc, x4, y4, rfl, hj, hf, D6, D8, D4, hT, hRf, hLt, hs, hk, hsz, e1, e4, e6, e8, e26, e27, e28, e5⟩ := id hI
  by_cases hjl : j < KL.length
  · refine beg_step hpv hko hl (by omega) (by omega) (by omega) (Nat.le_refl _) hge (by omega) hjl hI (fun e' w'' hK => ⟨KL.length - (j + 1), by omega, hK⟩) (fun e' w'' v' hv' h4 h5 hB hF => ?_)
    try simp (maxDischargeDepth := 8) [↓sC, sB, sM, h4, h5, hB.m]
    exact ⟨hF, .inl ⟨v', rfl, hv'⟩⟩
  obtain rfl : j = KL.length := by omega
  unfold F5B0
  have hv1 := hT.one
  try simp (maxDischargeDepth := 8) [↓sC, sB, sM, e27, e28, e6, e4, D6.m, D4.m, D4.z, hsp2, hv1, e8]
  have hF := hf.wr (b := sz w) (.inr (Nat.le_refl _)) [v, i64 60]
  refine ⟨hF, .inr ⟨t, v, sz W2, L, sa, sc, rfl, isT_wrB D4 hT, hs, hk, by omega, by rw [sz_wr]; exact lt_of_fz D8.z, by rw [mm_wr_ne (by omega)]; exact D8.m, refS_wrB hRf D4, hLt⟩⟩
theorem big6_spec {w : World} {at_ : Int} {ka : Option Addr} {n kc : Nat} : Ret P 6 #[.agg #[i64 at_, .slice ka n kc]] w fun x w' => x = .bool (decide (300 < n)) ∧ Fr [] w w' := by
  refine F6ok ?_
  unfold F6
  have hc : (Value.agg #[i64 at_, .slice ka n kc]).cells.toList = [i64 at_, .slice ka n kc] := rfl
  have hlen : ∀ w, pBuiltin P .len #[23] 3 [.slice ka n kc] w = some (i64 n, w) := fun w => len23
  try simp (maxDischargeDepth := 8) [↓sC, sB, sM, hc, hlen]
  omega
end Go.Proofs.YtieejbkbdfccdaaGreat

set_option linter.unusedVariables false
set_option linter.unusedSimpArgs false
namespace Go.Proofs.YtieejbkbdfccdaaGreat
open Go
def IsI (w0 : World) (b2 : Nat) (pv : Value) (n : Nat) (m : Nat) (e : Env) (w' : World) : Prop :=
  ∃ j : Nat, m = n - j ∧ j ≤ n ∧ Fr [] w0 w' ∧ e 2 = pt b2 0 ∧ e 24 = pv ∧ e 25 = i64 n ∧ e 26 = i64 j
set_option maxHeartbeats 8000000 in
set_option maxRecDepth 20000 in
theorem is_spec {w : World} {t : Tr} {v : Value} {L : List PrP} {sa : Option Addr} {sc : Nat} (hT : IsT w t v) (hs : SrtK t.ino) (hk : KeyOk t.ino) (hn : t.size ≤ 60) (hR : RefS w (.agg #[.slice sa L.length sc, i64 60]) 60 L) (hL : L.map kr = t.ino) :
    Ret P 15 #[.agg #[v, i64 60], .agg #[.slice sa L.length sc, i64 60]] w fun x w' => x = i64 1 ∧ Fr [] w w' := by
  obtain ⟨sa', sc', hv, hrd, hok⟩ := hR
  have hv2 : Value.slice sa L.length sc = .slice sa' L.length sc' := by simpa using hv
  rw [← hv2] at hrd
  refine F15ok ?_
  unfold F15
  have hc1 : (Value.agg #[v, i64 60]).cells.toList = [v, i64 60] := rfl
  have hc2 : (Value.agg #[.slice sa L.length sc, i64 60]).cells.toList = [.slice sa L.length sc, i64 60] := rfl
  have hlen : ∀ w, pBuiltin P .len #[22] 3 [.slice sa L.length sc] w = some (i64 L.length, w) := fun w => len22
  have hlt : L.length = t.size := by rw [← Tr.size_ino, ← hL, List.length_map]
  obtain ⟨W, hW⟩ : ∃ W, W = nw (nw w [v, i64 60] 32) [.slice sa L.length sc, i64 60] 54 := ⟨_, rfl⟩
  have fW : Fr [] w W := by rw [hW]; exact ((Fr.refl [] w).nw _ _).nw _ _
  have hsW : sz W = sz w + 2 := by rw [hW]; simp [sz_nw]
  have m0 : mm W (sz w) = [v, i64 60] := by rw [hW, mm_nw, if_neg (by simp [sz_nw]), mm_nw, if_pos rfl]
  have m1 : mm W (sz w + 1) = [.slice sa L.length sc, i64 60] := by rw [hW, mm_nw, if_pos (by simp [sz_nw])]
  have kp : ∀ {w' : World}, Fr [] W w' → mm w' (sz w) = [v, i64 60] ∧ mm w' (sz w + 1) = [.slice sa L.length sc, i64 60] ∧ sz w + 2 ≤ sz w' := fun hf => by
    have := hf.size
    exact ⟨by rw [hf.mm (by omega) (by simp), m0], by rw [hf.mm (by omega) (by simp), m1], by omega⟩
  have h2 : ([v, i64 60] : List Value).take 2 = [v, i64 60] := rfl
  try simp (maxDischargeDepth := 8) [↓sC, sB, sM, hc1, hc2, ← hW, m0, m1, hsW, hlen]
  refine (len_spec' (room := 60) (hT.fr0 fW.drew)).call ?_
  rintro _ w1 ⟨rfl, f1⟩
  have F1 := ((Fr.refl [] W).drew).trans0 f1
  obtain ⟨a0, a1, a2⟩ := kp F1
  have hne : ¬ (t.size : Int) = L.length → False := fun h => h (by omega)
  have heq : ((t.size : Int) = L.length) = True := eq_true (by omega)
  have heq2 : (t.size = L.length) = True := eq_true hlt.symm
  try simp (maxDischargeDepth := 8) [↓sC, sB, sM, a0, a1, hlen, heq, heq2]
  refine (room_spec' (room := 60) (v := v)).call ?_
  rintro _ w2 ⟨rfl, f2⟩
  have F2 := F1.trans0 f2
  obtain ⟨b0, b1, b2⟩ := kp F2
  try simp (maxDischargeDepth := 8) [↓sC, sB, sM, b0, b1, hlen]
  refine loopE_of (IsI W (sz w) (.slice sa L.length sc) L.length) L.length ⟨0, by omega, by omega, F2, by simp [put_get], by simp [put_get], by simp [put_get], by simp [put_get]⟩ ?_
  rintro m e w3 ⟨j, rfl, hj, f3, e2, e24, e25, e26⟩
  unfold F15B0
  have g3 := fW.trans0 f3
  by_cases hjl : j < L.length
  · obtain ⟨x, hx⟩ : ∃ x, L[j]? = some x := ⟨_, List.getElem?_eq_getElem hjl⟩
    have hxok := hok x (List.mem_of_getElem? hx)
    obtain ⟨b, o, c', hpv, hb, hin, htk⟩ := flat_at (hrd.fr0 g3) (prV_len L) (by omega) hx
    have hji : (j : Int) < L.length := by omega
    have hwj : IntKind.i64.wrap ((j : Int) + 1) = ((j + 1 : Nat) : Int) := wrap64 (by omega) (by omega)
    have hz9 : [Value.string ByteArray.empty, Value.int IntKind.i64 0, Value.int IntKind.i64 0, Value.int IntKind.i64 0, Value.int IntKind.i64 0, Value.float FloatKind.f64 0, Value.int IntKind.i64 0, Value.string ByteArray.empty, Value.slice none 0 0] = prV pz := rfl
    have hsp : splice (prV pz) 0 (prV x) = prV x := splice_full rfl
    have hz8 : [Value.int IntKind.i64 0, Value.int IntKind.i64 0, Value.int IntKind.i64 0, Value.int IntKind.i64 0, Value.float FloatKind.f64 0, Value.int IntKind.i64 0, Value.string ByteArray.empty, Value.slice none 0 0] = rcV rz (.slice none 0 0) := rfl
    have hspz : ∀ x l n c, splice (rcV rz (.slice none 0 0)) 0 (rcV x (.slice l n c)) = rcV x (.slice l n c) := fun _ _ _ _ => splice_full rfl
    have len8 : ∀ x lx, (rcV x lx).length = 8 := fun _ _ => rfl
    have t8 : ∀ r lv, (rcV r lv).take 8 = rcV r lv := fun _ _ => rfl
    have hnes : ∀ w, pBin P .neq 9 false (strB x.key) (strB x.key) w = some (.bool false, w) := fun w => by
      have := ne_strB (P := P) (t := 9) (lit := false) (l := x.key) (m := x.key) (w := w)
      simpa using this
    obtain ⟨W4, hW4⟩ : ∃ W4, W4 = wr (nw w3 (prV pz) 63) (sz w3) (prV x) := ⟨_, rfl⟩
    have f4 : Fr [] w3 W4 := by rw [hW4]; exact ((Fr.refl [] w3).nw _ _).wr (.inr (Nat.le_refl _)) _
    have q4 : mm W4 (sz w3) = prV x := by rw [hW4]; exact mm_wr_same (by simp [fz_nw]) _
    have s4 : sz w3 < sz W4 := by rw [hW4, sz_wr, sz_nw]; omega
    obtain ⟨d0, d1, d2⟩ := kp (f3.trans0 f4)
    rw [hpv] at e24
    try simp (maxDischargeDepth := 8) [↓sC, sB, sM, e2, e24, e25, e26, hji, hjl, hin, htk, hz9, hsp, prV_oneT, ← hW4, d0]
    have hino : t.ino[j]? = some (kr x) := by rw [← hL, List.getElem?_map, hx]; rfl
    refine (at_spec (room := 60) (hT.fr0 (g3.trans0 f4)) (KeyOk.shT hk hs (by omega)) hino).call ?_
    rintro _ w5 ⟨a5, c5, rfl, hr5, f5⟩
    have q5 : mm w5 (sz w3) = prV x := by rw [f5.mm s4 (by simp), q4]
    have s5 : sz w3 < sz w5 := f5.lt s4
    obtain ⟨W6, hW6⟩ : ∃ W6, W6 = wr (nw w5 (rcV rz (.slice none 0 0)) 61) (sz w5) (rcV x.rec' (.slice a5 x.rec'.list.length c5)) := ⟨_, rfl⟩
    have f6 : Fr [] w5 W6 := by rw [hW6]; exact ((Fr.refl [] w5).nw _ _).wr (.inr (Nat.le_refl _)) _
    have q6 : mm W6 (sz w5) = rcV x.rec' (.slice a5 x.rec'.list.length c5) := by rw [hW6]; exact mm_wr_same (by simp [fz_nw]) _
    have q6' : mm W6 (sz w3) = prV x := by rw [f6.mm s5 (by simp), q5]
    have hk1 : (kr x).1 = x.key := rfl
    have hk2 : (kr x).2 = x.rec' := rfl
    have hxin : kr x ∈ t.ino := List.mem_of_getElem? hino
    have hl32 := list32 (hk _ hxin).2.2
    rw [hk2] at hr5 hl32
    have hxr : IsRec W6 (.slice x.la x.rec'.list.length x.c) x.rec' := IsRec.fr0 hxok (((g3.trans0 f4).trans0 f5).trans0 f6)
    try simp (maxDischargeDepth := 8) [↓sC, sB, sM, hk1, hk2, hz8, hspz, rcV_oneT, len8, ← hW6, q6, q6', t8, prd, prd', hnes]
    refine (same14_spec (hr5.fr0 f6) hxr (by omega)).call ?_
    rintro _ w7 ⟨rfl, f7⟩
    try simp (maxDischargeDepth := 8) [↓sC, sB, sM, e26, hwj, -Int.natCast_add]
    exact ⟨L.length - (j + 1), by omega, j + 1, rfl, by omega, (((f3.trans0 f4).trans0 f5).trans0 f6).trans0 f7, by simp [put_get, e2], by simp [put_get, e24, hpv], by simp [put_get, e25], by simp [put_get]⟩
  · have hji : ¬ (j : Int) < L.length := by omega
    try simp (maxDischargeDepth := 8) [↓sC, sB, sM, e25, e26, hji, hjl]
    exact g3
end Go.Proofs.YtieejbkbdfccdaaGreat
