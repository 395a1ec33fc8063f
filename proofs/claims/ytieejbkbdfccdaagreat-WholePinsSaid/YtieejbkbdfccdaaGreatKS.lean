/- Disks of any size that are up, and stay up. -/
import Derived.Test.YtieejbkbdfccdaaGreatKQ
import Derived.Test.YtieejbkbdfccdaaGreatSim
import Derived.Test.YtieejbkbdfccdaaGreatKR
set_option linter.unusedVariables false
set_option linter.unusedSimpArgs false
namespace Go.Proofs.YtieejbkbdfccdaaGreat
open Go
/-- A disk that is up, and stays up. -/
structure CalmN (N : Nat) (D : DD) : Prop where
  down : D.down = false
  left : D.left = 0
  len : D.firm.length = N
  pend : ∀ p ∈ D.pend, 0 ≤ p.1 ∧ p.1 < D.firm.length
theorem CalmN.ok {N : Nat} {D : DD} (h : CalmN N D) {x : Nat} (hx : x < N) : okE D x = 0 := by
  unfold okE; rw [h.down, h.len]; simp; omega
theorem CalmN.write {N : Nat} {D : DD} (h : CalmN N D) {x : Nat} (hx : x < N) (s : List UInt8) : CalmN N (writeD D x s) := by
  unfold writeD
  rw [if_pos (h.ok hx)]
  refine ⟨by simp [h.left], by simp [h.left], h.len, fun p hp => ?_⟩
  simp only [List.mem_append, List.mem_singleton] at hp
  rcases hp with hp | rfl
  · exact h.pend p hp
  · simp only; rw [h.len]; omega
theorem writes_writeN {N : Nat} {D : DD} (h : CalmN N D) {x : Nat} (hx : x < N) (s : List UInt8) : (writeD D x s).writes = D.writes + 1 := by
  unfold writeD; rw [if_pos (h.ok hx)]
theorem writeE_calmN {N : Nat} {D : DD} (h : CalmN N D) {x : Nat} (hx : x < N) : writeE D x = 0 := by
  unfold writeE; rw [if_pos (h.ok hx), h.left]; rfl
theorem wipe_inN {N n : Nat} : ∀ {D : DD} {x : Nat} {so : Bool}, CalmN N D → x + n ≤ N → (so = false → D.pend = []) →
    ∃ D', wipeGo n D x so = (D', 0) ∧ CalmN N D' ∧ D'.pend = [] ∧ (∀ i, view D' i = if x ≤ i ∧ i < x + n then zb 64 else view D i) ∧ D'.writes = D.writes + cnt (view D) x n := by
  induction n with
  | zero =>
    intro D x so hc hx hp
    cases so with
    | false =>
      refine ⟨D, rfl, hc, hp rfl, fun i => ?_, by simp [cnt]⟩
      rw [if_neg (by omega)]
    | true =>
      refine ⟨syncD D, by simp [wipeGo, hc.down], ?_, by simp [syncD, hc.down], fun i => ?_, by simp [syncD, hc.down, cnt]⟩
      · unfold syncD; rw [if_neg (by rw [hc.down]; simp)]
        exact ⟨hc.down, hc.left, by simp [syncF_len', hc.len], by simp⟩
      · rw [if_neg (by omega)]
        unfold view readD syncD
        rw [if_neg (by rw [hc.down]; simp)]
        simp only
        have := sync_view hc.pend i
        simpa [lastW] using this
  | succ n ih =>
    intro D x so hc hx hp
    rw [wipeGo, if_pos (hc.ok (by omega))]
    by_cases hz : readD D x = zb 64
    · rw [if_pos hz]
      obtain ⟨D', h1, h2, h2', h3, h4⟩ := ih (D := D) (x := x + 1) (so := so) hc (by omega) hp
      refine ⟨D', by simpa using h1, h2, h2', fun i => ?_, ?_⟩
      · rw [h3]
        by_cases hi : i = x
        · subst hi
          rw [if_neg (by omega), if_pos (by omega)]; exact hz
        · by_cases hr : x ≤ i ∧ i < x + (n + 1)
          · rw [if_pos hr, if_pos (by omega)]
          · rw [if_neg hr, if_neg (by omega)]
      · rw [h4, cnt_front, if_pos (show view D x = zb 64 from hz)]; simp
    · rw [if_neg hz, if_pos (writeE_calmN hc (by omega))]
      obtain ⟨D', h1, h2, h2', h3, h4⟩ := ih (D := writeD D x (zb 64)) (x := x + 1) (so := true) (hc.write (by omega) _) (by omega) (by simp)
      refine ⟨D', by simpa using h1, h2, h2', fun i => ?_, ?_⟩
      · rw [h3, view_write (hc.ok (by omega))]
        by_cases hi : i = x
        · subst hi
          rw [if_neg (by omega), if_pos rfl, if_pos (by omega)]
        · by_cases hr : x ≤ i ∧ i < x + (n + 1)
          · rw [if_pos hr, if_pos (by omega)]
          · rw [if_neg hr, if_neg (by omega), if_neg (by omega)]
      · rw [h4, writes_writeN hc (by omega), cnt_front, if_neg (show ¬ view D x = zb 64 from hz), cnt_congr (v' := view D) (fun i a b => by rw [view_write (hc.ok (by omega)), if_neg (by omega)])]
        omega
end Go.Proofs.YtieejbkbdfccdaaGreat

set_option linter.unusedVariables false
set_option linter.unusedSimpArgs false
namespace Go.Proofs.YtieejbkbdfccdaaGreat
open Go
/-- The writes of an entry, from its part i on. -/
def appGo (x : Nat) (B : List UInt8) : Nat → Nat → DD → DD × Int
  | 0, _, D => (D, 0)
  | k + 1, i, D =>
    if writeE D ((x + i : Nat) : Int) = 0 then appGo x B k (i + 1) (writeD D ((x + i : Nat) : Int) (sealOf (partS B (need B.length) i)))
    else (writeD D ((x + i : Nat) : Int) (sealOf (partS B (need B.length) i)), writeE D ((x + i : Nat) : Int))
theorem part_cut (B : List UInt8) (i : Nat) : (B.drop (min (60 * i) B.length)).take (min (60 * (i + 1)) B.length - min (60 * i) B.length) = (B.drop (60 * i)).take 60 := by
  by_cases h : 60 * i ≤ B.length
  · rw [Nat.min_eq_left h]
    by_cases h2 : 60 * (i + 1) ≤ B.length
    · rw [Nat.min_eq_left h2]; congr 1; omega
    · rw [Nat.min_eq_right (by omega), List.take_of_length_le (by simp), List.take_of_length_le (by simp; omega)]
  · rw [Nat.min_eq_right (by omega), Nat.min_eq_right (by omega), List.drop_eq_nil_of_le (Nat.le_refl _), List.drop_eq_nil_of_le (by omega)]
    simp
theorem partS_len (B : List UInt8) (n i : Nat) : (partS B n i).length ≤ 61 := by simp [partS]; omega
theorem wrap8_ofNat {k : Nat} (h : k < 256) : Value.int .u8 (IntKind.u8.wrap (k : Int)) = bv (UInt8.ofNat k) := by
  simp only [bv, IntKind.wrap, IntKind.bits, IntKind.signed]
  simp
def ApI (w : World) (r b : Nat) (v : Value) (B : List UInt8) (fr ln at_ : Nat) (D : DD) (F : List Nat) (m : Nat) (e : Env) (w' : World) : Prop :=
  ∃ (i : Nat) (D' : DD) (F' : List Nat), m = need B.length - i ∧ i ≤ need B.length ∧ IsD w' b D' F' ∧ Grow F w F' w' ∧ D'.pend.length ≤ D.pend.length + i ∧ D'.writes ≤ D.writes + i ∧ D'.firm.length = D.firm.length ∧
    appGo (fr + at_) B (need B.length - i) i D' = appGo (fr + at_) B (need B.length) 0 D ∧ (i = 0 ∨ True) ∧
    e 0 = pt r 0 ∧ e 1 = v ∧ e 5 = i64 (need B.length) ∧ e 31 = i64 (need B.length) ∧ e 32 = i64 i
theorem writeD_len (D : DD) (x : Int) (s : List UInt8) : (writeD D x s).firm.length = D.firm.length := by unfold writeD; split <;> rfl
theorem writeD_pend (D : DD) (x : Int) (s : List UInt8) : (writeD D x s).pend.length ≤ D.pend.length + 1 := by unfold writeD; split <;> simp
theorem writeD_writes (D : DD) (x : Int) (s : List UInt8) : (writeD D x s).writes ≤ D.writes + 1 := by
  unfold writeD; split
  · exact Int.le_refl _
  · omega
theorem app_step {w : World} {r b : Nat} {v : Value} {B : List UInt8} {fr ln at_ : Nat} {D : DD} {F : List Nat} (hro : IsRoll w r b fr ln at_) (hrF : r ∉ F) (hv : RdV w v B.length (bs B)) (hvF : 0 < B.length → ∀ k, v.ownBlock = some k → k ∉ F)
    (hB : B.length ≤ 3840) (hfit : fr + ln ≤ 4096) (hat : at_ ≤ ln) (hm : D.pend.length + 64 < 1000000) (hwr : D.writes + 64 < 4611686018427387904) {m : Nat} {e : Env} {w1 : World}
    (hI : ApI w r b v B fr ln at_ D F m e w1) {K : KT} (hN : ∀ m' e' w', m' < m → ApI w r b v B fr ln at_ D F m' e' w' → K .normal e' w')
    (hX : ∀ e' w' D' F', IsD w' b D' F' → Grow F w F' w' → appGo (fr + at_) B (need B.length) 0 D = (D', 0) → e' 0 = pt r 0 → e' 5 = i64 (need B.length) → K (.exit 1) e' w')
    (hR : ∀ e' w' D' F' x, IsD w' b D' F' → Grow F w F' w' → x ≠ 0 → appGo (fr + at_) B (need B.length) 0 D = (D', x) → e' 4 = i64 x → K .ret e' w') : F27B0 e w1 K := by
  obtain ⟨i, D', F', hmm, hi, hd, hg, hpl, hwl, hfl, hgo, _, e0, e1, e5, e31, e32⟩ := hI
  subst hmm
  unfold F27B0
  have hn64 : need B.length ≤ 64 := by unfold need; omega
  obtain ⟨n, hn⟩ : ∃ n, n = need B.length := ⟨_, rfl⟩
  have hrl := hro.lt
  have hrF' : ∀ k ∈ F', k = r → False := fun k hk hkr => by
    rcases hg.new k hk with h | h
    · exact hrF (hkr ▸ h)
    · omega
  have hvl : ∀ k, v.ownBlock = some k → 0 < B.length → k < sz w := fun k hk h0 => by
    obtain ⟨ab, ao, ac, rfl, q1, _⟩ := rd_cell hv h0
    rcases id hv with ⟨_, _, _, h1, _⟩ | ⟨b1, o1, c1, h1, _, _, h2, _⟩
    · omega
    · simp only [Value.slice.injEq, Option.some.injEq, Addr.mk.injEq] at h1
      simp only [Value.ownBlock, Option.some.injEq] at hk
      omega
  have hv1 : RdV w1 v B.length (bs B) := by
    by_cases h0 : 0 < B.length
    · exact hv.fr hg.fr (hvF h0)
    · have hB0 : B = [] := List.eq_nil_of_length_eq_zero (by omega)
      subst hB0
      obtain ⟨a, c, rfl⟩ := sl_of hv
      exact .inl ⟨_, _, rfl, rfl, rfl⟩
  obtain ⟨va, vc, hvv⟩ := sl_of hv
  have hlv : ∀ w, pBuiltin P .len #[72] 3 [v] w = some (i64 B.length, w) := fun w => by rw [hvv]; exact len72
  rw [← hn] at e5 e31 hi hgo hn64
  by_cases hlt : i < n
  · have hl1 : (i < n) = True := eq_true hlt
    have hl2 : ((i : Int) < n) = True := eq_true (by omega)
    obtain ⟨lo, hlo⟩ : ∃ lo, lo = min (60 * i) B.length := ⟨_, rfl⟩
    obtain ⟨hi', hhi⟩ : ∃ hi', hi' = min (60 * (i + 1)) B.length := ⟨_, rfl⟩
    have m1 : IntKind.i64.wrap ((i : Int) * 60) = ((60 * i : Nat) : Int) := by rw [wrap64 (by omega) (by omega)]; omega
    have m2 : min ((60 * i : Nat) : Int) (B.length : Int) = (lo : Int) := by omega
    have m3 : IntKind.i64.wrap ((i : Int) + 1) = ((i + 1 : Nat) : Int) := wrap64 (by omega) (by omega)
    have m4 : IntKind.i64.wrap (((i + 1 : Nat) : Int) * 60) = ((60 * (i + 1) : Nat) : Int) := by rw [wrap64 (by omega) (by omega)]; omega
    have m5 : min ((60 * (i + 1) : Nat) : Int) (B.length : Int) = (hi' : Int) := by omega
    have m6 : IntKind.i64.wrap ((n : Int) - 1) = ((n - 1 : Nat) : Int) := by rw [wrap64 (by omega) (by omega)]; omega
    have m7 : IntKind.i64.wrap (((n - 1 : Nat) : Int) - i) = ((n - 1 - i : Nat) : Int) := by rw [wrap64 (by omega) (by omega)]; omega
    obtain ⟨S, hS, hSr, _⟩ := sl_mid (t := 72) (lo := lo) (hi := hi') sliceE72 hv1 (by omega) (by omega)
    have hcut := part_cut B i
    rw [← hlo, ← hhi] at hcut
    rw [hcut] at hSr
    obtain ⟨c8, hc8⟩ : ∃ c8 : UInt8, c8 = UInt8.ofNat (n - 1 - i) := ⟨_, rfl⟩
    have hcv : ∀ w, pConv P 3 5 (Value.int .i64 ((n - 1 - i : Nat) : Int)) w = some (bv c8, w) := fun w => by
      rw [cv5 (by simp), wrap8_ofNat (by omega), hc8]
    obtain ⟨g1, hg1⟩ : ∃ q : Nat, q = 60 * i := ⟨_, rfl⟩
    obtain ⟨g2, hg2⟩ : ∃ q : Nat, q = i + 1 := ⟨_, rfl⟩
    obtain ⟨g3, hg3⟩ : ∃ q : Nat, q = 60 * (i + 1) := ⟨_, rfl⟩
    obtain ⟨g4, hg4⟩ : ∃ q : Nat, q = n - 1 := ⟨_, rfl⟩
    obtain ⟨g5, hg5⟩ : ∃ q : Nat, q = n - 1 - i := ⟨_, rfl⟩
    rw [← hg1] at m1 m2
    rw [← hg2] at m3 m4
    rw [show 60 * g2 = g3 by omega] at m4
    rw [← hg3] at m5
    rw [← hg4] at m6 m7
    rw [show g4 - i = g5 by omega] at m7
    rw [← hg5] at hcv
    have hb1 : ∀ w, pBuildSlice P 72 1 [(0, bv c8)] w = some (sl (sz w) 0 1 1, nw w (bs [c8]) 5) := fun w => by rw [bsl72 (by omega) (by simp)]; rfl
    have hown0 : (nw w1 (bs [c8]) 5).ownsRow (sz w1) 5 1 (sl (sz w1) 0 1 1) 1 (bs [c8]) := own_nw (Nat.le_refl _) rfl (by unfold maxLen; omega)
    have f1 : Fr [] w1 (nw w1 (bs [c8]) 5) := (Fr.refl [] w1).nw _ _
    have hpl2 : ((B.drop (60 * i)).take 60).length ≤ 60 := by simp; omega
    obtain ⟨v2, w2, hrun, hown2, hgr2, hv2⟩ := append_own2 (P := P) (t := 72) (ty := 72) (sz w1) sliceE72 hasZero5 cellsOf5 (by rw [zeroL5]; rfl) (by omega) hown0 (by have := f1.size; omega) (hSr.fr0 f1) (by simp) bs_one
      (by unfold maxLen; omega) (by rw [bytesOf5]; omega)
    have f2 : Fr [] w1 w2 := f1.trans (Fr.of_grown hgr2) (fun k hk => .inr (own_lt hown0 k (by simpa using hk)).1)
    have hpart : [c8] ++ (B.drop (60 * i)).take 60 = partS B n i := by rw [hc8]; rfl
    have hrd2 : RdV w2 v2 (partS B n i).length (bs (partS B n i)) := by
      have := own_rd hown2
      rw [← bs_append, show 1 + ((B.drop (60 * i)).take 60).length = ([c8] ++ (B.drop (60 * i)).take 60).length by simp; omega, hpart] at this
      exact this
    try simp (maxDischargeDepth := 8) [↓sC, sB, sM, e0, e1, e5, e31, e32, hl1, hl2, hlv, m1, m2, m3, m4, m5, m6, m7, hS, hcv, hb1, hrun, -bsl72, -cv5]
    refine (seal_spec hrd2).call ?_
    rintro _ w3 ⟨rfl, f3⟩
    have hp61 := partS_len B n i
    rw [if_pos hp61, if_pos hp61]
    have hs64 := sealOf_length hp61
    obtain ⟨s, hss⟩ : ∃ s, s = sealOf (partS B n i) := ⟨_, rfl⟩
    rw [← hss] at hs64 ⊢
    have hst : pStore P 90 (pt (sz w3) 0) (sec s) (nw w3 (bs (zb 64)) 90) = some (wr (nw w3 (bs (zb 64)) 90) (sz w3) (bs s)) := by
      try simp (maxDischargeDepth := 8) [↓sC, sB, sM, hs64]
    obtain ⟨Y, hY⟩ : ∃ Y, Y = drew (wr (nw w3 (bs (zb 64)) 90) (sz w3) (bs s)) := ⟨_, rfl⟩
    have fY : Fr [] w3 Y := by rw [hY]; exact (((Fr.refl [] w3).nw _ _).wr (.inr (Nat.le_refl _)) _).drew
    have hYm : mm Y (sz w3) = bs s := by rw [hY, mm_drew, mm_wr_same]; simp [sM]
    have hld : pLoad P 90 (pt (sz w3) 0) Y = some (sec s, Y) := by
      rw [ld90 (by rw [hYm, bs_length]; omega), hYm, List.drop_zero, List.take_of_length_le (by rw [bs_length]; omega)]
    have q3 := (f2.trans0 f3).trans0 fY
    have hroY := (hro.fr hg.fr hrF).fr q3 (by simp)
    have hm4 := hroY.1
    have hrs := hroY.lt
    obtain ⟨x0, hx0⟩ : ∃ x0, x0 = fr + at_ := ⟨_, rfl⟩
    have a1 : IntKind.i64.wrap ((fr : Int) + at_) = (x0 : Int) := by rw [wrap64 (by omega) (by omega)]; omega
    obtain ⟨x1, hx1⟩ : ∃ x1, x1 = x0 + i := ⟨_, rfl⟩
    have a2 : IntKind.i64.wrap ((x0 : Int) + i) = (x1 : Int) := by rw [wrap64 (by omega) (by omega)]; omega
    try simp (maxDischargeDepth := 8) [↓sC, sB, sM, hst, ← hY, hm4, hrs, a1, a2, hld, -st90, -ld90]
    have hwD := write_spec (x := (x1 : Int)) (s := s) (hd.fr0 q3) hs64 (by omega) (by omega)
    refine hwD.call ?_
    rintro _ w4 ⟨rfl, F2, hd2, hf4, hF2⟩
    have hg2 : Grow F w F2 w4 := (hg.calm q3).step hf4 hF2
    obtain ⟨k, hk⟩ : ∃ k, n - i = k + 1 := ⟨n - i - 1, by omega⟩
    rw [hk, appGo, ← hx0, ← hx1, ← hn, ← hss] at hgo
    by_cases hwe : writeE D' (x1 : Int) = 0
    · have hwe1 : (writeE D' (x1 : Int) = 0) = True := eq_true hwe
      rw [if_pos hwe] at hgo
      have hk2 : k = n - (i + 1) := by omega
      rw [hk2, hn] at hgo
      have m3' : IntKind.i64.wrap ((i : Int) + 1) = ((i + 1 : Nat) : Int) := wrap64 (by omega) (by omega)
      generalize writeE D' (x1 : Int) = we at *
      try simp (maxDischargeDepth := 8) [↓sC, sB, sM, hwe1, e32, m3', -Int.natCast_add]
      refine hN (need B.length - (i + 1)) _ _ (by omega) ⟨i + 1, _, F2, rfl, by omega, hd2, hg2, ?_, ?_, ?_, by rw [← hx0]; exact hgo, .inr trivial, by simp [put_get, e0], by simp [put_get, e1], by simp [put_get, e5, hn], by simp [put_get, e31, hn], by simp [put_get]⟩
      · have := writeD_pend D' (x1 : Int) s; omega
      · have := writeD_writes D' (x1 : Int) s; omega
      · rw [writeD_len]; exact hfl
    · have hwe1 : (writeE D' (x1 : Int) = 0) = False := eq_false hwe
      rw [if_neg hwe] at hgo
      obtain ⟨we, hwe2⟩ : ∃ we, we = writeE D' (x1 : Int) := ⟨_, rfl⟩
      rw [← hwe2] at hwe hwe1 hgo ⊢
      try simp (maxDischargeDepth := 8) [↓sC, sB, sM, hwe1]
      exact hR _ _ _ F2 we hd2 hg2 hwe (by rw [← hx0, ← hn]; exact hgo.symm) (by simp [put_get])
  · have hie : i = n := by omega
    subst hie
    have hl1 : (i < i) = False := eq_false (by omega)
    have hl2 : ((i : Int) < i) = False := eq_false (by omega)
    rw [Nat.sub_self, appGo] at hgo
    try simp (maxDischargeDepth := 8) [↓sC, sB, sM, e31, e32, hl1, hl2]
    exact hX _ _ D' F' hd hg (by rw [← hn]; exact hgo.symm) (by simp [put_get, e0]) (by simp [put_get, e5, hn])
end Go.Proofs.YtieejbkbdfccdaaGreat

set_option linter.unusedVariables false
set_option linter.unusedSimpArgs false
namespace Go.Proofs.YtieejbkbdfccdaaGreat
open Go
/-- What 'Append' does: the disk, the error, how many sectors are used. -/
def appM (fr ln at_ : Nat) (B : List UInt8) (D : DD) : DD × Int × Nat :=
  if D.down = true then (D, 14, at_) else if 3840 < B.length then (D, 3, at_) else if ln - at_ < need B.length then (D, 8, at_)
  else ((appGo (fr + at_) B (need B.length) 0 D).1, (appGo (fr + at_) B (need B.length) 0 D).2, if (appGo (fr + at_) B (need B.length) 0 D).2 = 0 then at_ + need B.length else at_)
structure AppR (w : World) (r b : Nat) (fr ln : Nat) (F : List Nat) (G : DD × Int × Nat) (x : Value) (w' : World) (F' : List Nat) : Prop where
  val : x = i64 G.2.1
  isd : IsD w' b G.1 F'
  new : ∀ k ∈ F', k ∈ F ∨ sz w ≤ k
  fr' : Fr (r :: F) w w'
  roll : IsRoll w' r b fr ln (G.2.2 : Int)
  out : r ∉ F'
theorem append_spec {w : World} {r b : Nat} {v : Value} {B : List UInt8} {fr ln at_ : Nat} {D : DD} {F : List Nat} (hro : IsRoll w r b fr ln at_) (hd : IsD w b D F) (hrF : r ∉ F) (hv : RdV w v B.length (bs B)) (hvF : 0 < B.length → ∀ k, v.ownBlock = some k → k ∉ F)
    (hB : B.length ≤ 5000) (hfit : fr + ln ≤ 4096) (hat : at_ ≤ ln) (hm : D.pend.length + 64 < 1000000) (hwr : D.writes + 64 < 4611686018427387904) :
    Ret P 27 #[pt r 0, v] w fun x w' => ∃ F', AppR w r b fr ln F (appM fr ln at_ B D) x w' F' := by
  refine F27ok ?_
  unfold F27
  have hm4 := hro.1
  have hrs := hro.lt
  obtain ⟨va, vc, hvv⟩ := sl_of hv
  have hlv : ∀ w, pBuiltin P .len #[72] 3 [v] w = some (i64 B.length, w) := fun w => by rw [hvv]; exact len72
  try simp (maxDischargeDepth := 8) [↓sC, sB, sM, hm4, hrs]
  refine (down_spec hd).call ?_
  rintro _ w1 ⟨rfl, f1⟩
  cases hdn : D.down with
  | true =>
    have hG : appM fr ln at_ B D = (D, 14, at_) := by unfold appM; rw [if_pos hdn]
    try simp (maxDischargeDepth := 8) [↓sC, sB, sM]
    exact ⟨F, by rw [hG], by rw [hG]; exact hd.fr0 f1, fun k hk => .inl hk, f1.mono (by simp), by rw [hG]; exact hro.fr f1 (by simp), hrF⟩
  | false =>
    have hdn' : ¬ D.down = true := by simp [hdn]
    by_cases hlong : 3840 < B.length
    · have hG : appM fr ln at_ B D = (D, 3, at_) := by unfold appM; rw [if_neg hdn', if_pos hlong]
      have c1 : ((3840 : Int) < B.length) = True := eq_true (by omega)
      have c2 : (3840 < B.length) = True := eq_true hlong
      try simp (maxDischargeDepth := 8) [↓sC, sB, sM, hlv, c1, c2]
      exact ⟨F, by rw [hG], by rw [hG]; exact hd.fr0 f1, fun k hk => .inl hk, f1.mono (by simp), by rw [hG]; exact hro.fr f1 (by simp), hrF⟩
    · have c1 : ((3840 : Int) < B.length) = False := eq_false (by omega)
      have c2 : (3840 < B.length) = False := eq_false hlong
      try simp (maxDischargeDepth := 8) [↓sC, sB, sM, hlv, c1, c2]
      refine (rneed_spec (n := B.length) (by omega)).call ?_
      rintro _ w2 ⟨rfl, f2⟩
      have hro2 := (hro.fr f1 (by simp)).fr f2 (by simp)
      try simp (maxDischargeDepth := 8) [↓sC, sB, sM]
      refine (left_spec hro2 (by omega) (by omega) (by omega)).call ?_
      rintro _ w3 ⟨rfl, f3⟩
      have q3 := (f1.trans0 f2).trans0 f3
      have hro3 := hro2.fr f3 (by simp)
      have hd3 := hd.fr0 q3
      have hn64 : need B.length ≤ 64 := by unfold need; omega
      obtain ⟨lf, hlf⟩ : ∃ lf : Nat, lf = ln - at_ := ⟨_, rfl⟩
      have hlfi : (ln : Int) - (at_ : Int) = (lf : Int) := by omega
      rw [hlfi]
      by_cases hfull : lf < need B.length
      · have hG : appM fr ln at_ B D = (D, 8, at_) := by unfold appM; rw [if_neg hdn', if_neg hlong, if_pos (by omega)]
        have c3 : ((lf : Int) < ((need B.length : Nat) : Int)) = True := eq_true (by omega)
        have c4 : (lf < need B.length) = True := eq_true hfull
        try simp (maxDischargeDepth := 8) [↓sC, sB, sM, c3, c4]
        exact ⟨F, by rw [hG], by rw [hG]; exact hd3, fun k hk => .inl hk, q3.mono (by simp), by rw [hG]; exact hro3, hrF⟩
      · have c3 : ((lf : Int) < ((need B.length : Nat) : Int)) = False := eq_false (by omega)
        have c4 : (lf < need B.length) = False := eq_false hfull
        have hG : appM fr ln at_ B D = ((appGo (fr + at_) B (need B.length) 0 D).1, (appGo (fr + at_) B (need B.length) 0 D).2, if (appGo (fr + at_) B (need B.length) 0 D).2 = 0 then at_ + need B.length else at_) := by
          unfold appM; rw [if_neg hdn', if_neg hlong, if_neg (by omega)]
        try simp (maxDischargeDepth := 8) [↓sC, sB, sM, hlv, c3, c4]
        refine (rneed_spec (n := B.length) (by omega)).call ?_
        rintro _ w4 ⟨rfl, f4⟩
        have q4 := q3.trans0 f4
        have hro4 := hro3.fr f4 (by simp)
        have hd4 := hd.fr0 q4
        have hrl4 := hro4.lt
        refine loopE_of (ApI w4 r b v B fr ln at_ D F) (need B.length) ⟨0, D, F, rfl, by omega, hd4, Grow.refl F w4, by omega, by omega, rfl, rfl, .inl rfl, by simp [put_get, argE_get], by simp [put_get, argE_get], by simp [put_get], by simp [put_get], by simp [put_get]⟩ ?_
        intro m e w5 hI
        refine app_step hro4 hrF (hv.fr0 q4) hvF (by omega) (by omega) hat hm hwr hI (fun m' e' w' hlt hI' => ⟨m', hlt, hI'⟩) (fun e' w' D' F' hd' hg' hgo e0 e5 => ?_) (fun e' w' D' F' x hd' hg' hx hgo e4 => ?_)
        · rw [hgo] at hG
          simp only [if_true] at hG
          have hro' := hro4.fr hg'.fr hrF
          have hm' := hro'.1
          have hz' := hro'.2
          have hrs' := hro'.lt
          obtain ⟨q, hq⟩ : ∃ q, q = at_ + need B.length := ⟨_, rfl⟩
          have ha : IntKind.i64.wrap ((at_ : Int) + ((need B.length : Nat) : Int)) = (q : Int) := by rw [wrap64 (by omega) (by omega)]; omega
          have hrF' : r ∉ F' := fun hk => by
            rcases hg'.new r hk with h | h
            · exact hrF h
            · omega
          try simp (maxDischargeDepth := 8) [↓sC, sB, sM, e0, e5, hm', hz', hrs', ha]
          obtain ⟨X, hX⟩ : ∃ X, X = wr w' r [pt b 0, i64 fr, i64 ln, i64 q] := ⟨_, rfl⟩
          have fX : Fr [r] w' X := by rw [hX]; exact (Fr.refl _ _).wr (.inl (by simp)) _
          rw [show (Value.int IntKind.i64 (q : Int)) = i64 q from rfl] at *
          try rw [← hX]
          refine ⟨F', by rw [hG], by rw [hG]; exact hd'.fr fX (fun k hk hkr => hrF' (by rw [List.mem_singleton] at hkr; rw [← hkr]; exact hk)), fun k hk => (hg'.new k hk).imp id (fun h => Nat.le_trans q4.size h), ?_, ?_, hrF'⟩
          · exact ((q4.mono (T := r :: F) (by simp)).trans (hg'.fr.mono (T := r :: F) (by simp +contextual)) (fun k hk => .inl hk)).trans (fX.mono (T := r :: F) (by simp)) (fun k hk => .inl hk)
          · rw [hG]
            refine ⟨?_, ?_⟩
            · rw [hX, mm_wr_same hz', hq]
            · rw [hX, fz_wr, hz']
        · rw [hgo] at hG
          simp only [if_neg hx] at hG
          try simp (maxDischargeDepth := 8) [↓sC, sB, sM, e4]
          exact ⟨F', by rw [hG], by rw [hG]; exact hd', fun k hk => (hg'.new k hk).imp id (fun h => Nat.le_trans q4.size h), (q4.mono (T := r :: F) (by simp)).trans (hg'.fr.mono (T := r :: F) (by simp +contextual)) (fun k hk => .inl hk), by rw [hG]; exact hro4.fr hg'.fr hrF, fun hk => by
            rcases hg'.new r hk with h | h
            · exact hrF h
            · omega⟩
end Go.Proofs.YtieejbkbdfccdaaGreat

set_option linter.unusedVariables false
set_option linter.unusedSimpArgs false
namespace Go.Proofs.YtieejbkbdfccdaaGreat
open Go
theorem scanGo_le : ∀ (f : Nat) (S : List (List UInt8)) (at_ : Nat), (scanGo f S at_).2 ≤ at_ + S.length := by
  intro f
  induction f with
  | zero => intro S at_; exact Nat.le_add_right _ _
  | succ f ih =>
    intro S at_
    cases h : oneM S with
    | none => rw [scanGo_none h]; exact Nat.le_add_right _ _
    | some p =>
      obtain ⟨b, n⟩ := p
      obtain ⟨h1, h2⟩ := oneGo_pos S 0 0 [] b n h
      have := ih (S.drop n) (at_ + n)
      rw [scanGo, h]
      simp only [List.length_drop] at this ⊢
      omega
theorem scanM_le (S : List (List UInt8)) : (scanM S).2 ≤ S.length := by
  have := scanGo_le S.length S 0
  unfold scanM; omega
theorem IsD.ltF {w : World} {b : Nat} {D : DD} {F : List Nat} (h : IsD w b D F) : ∀ k ∈ F, k < sz w := by
  obtain ⟨hw, fb, fc, pv, tl, h1, h2, h3, h4, h5, h6, h7, h8, h9, h10, h11, h12, h13, h14⟩ := h
  exact h14
def clearM (D : DD) (fr ln : Int) : DD × Int := if D.down = true then (D, 14) else if fitsM D.firm.length fr ln then wipeGo ln.toNat D fr false else (D, 1)
theorem clear_spec {w : World} {b : Nat} {D : DD} {F : List Nat} {fr ln : Int} (h : IsD w b D F) (hf0 : -9223372036854775808 ≤ fr) (hf1 : fr < 9223372036854775808) (hl : fitsM D.firm.length fr ln → ln ≤ 2000) (hm : D.pend.length + 2000 < 1000000) (hwr : D.writes + 2000 < 4611686018427387904) :
    Ret P 25 #[pt b 0, ar fr ln] w fun x w' => x = i64 (clearM D fr ln).2 ∧ ∃ F', IsD w' b (clearM D fr ln).1 F' ∧ Grow F w F' w' := by
  refine F25ok ?_
  unfold F25 ar
  have hlen : D.firm.length ≤ 4096 := by obtain ⟨hw, _⟩ := id h; exact hw.len
  obtain ⟨W, hW⟩ : ∃ W, W = nw w [i64 fr, i64 ln] 42 := ⟨_, rfl⟩
  have fW : Fr [] w W := by rw [hW]; exact (Fr.refl [] w).nw _ _
  have hmm : mm W (sz w) = [i64 fr, i64 ln] := by rw [hW]; simp [sM]
  have hs : sz w < sz W := by rw [hW]; simp [sM]
  try simp (maxDischargeDepth := 8) [↓sC, sB, sM, ← hW]
  refine (down_spec (h.fr0 fW)).call ?_
  rintro _ w1 ⟨rfl, f1⟩
  have q1 := fW.trans0 f1
  cases hd : D.down with
  | true =>
    have hG : clearM D fr ln = (D, 14) := by unfold clearM; rw [if_pos hd]
    try simp (maxDischargeDepth := 8) [↓sC, sB, sM]
    rw [hG]
    exact ⟨rfl, F, h.fr0 q1, (Grow.refl F w).calm q1⟩
  | false =>
    have hd' : ¬ D.down = true := by simp [hd]
    have hm1 : mm w1 (sz w) = [i64 fr, i64 ln] := by rw [f1.mm hs (by simp), hmm]
    have hs1 := f1.lt hs
    try simp (maxDischargeDepth := 8) [↓sC, sB, sM, hm1, hs1]
    refine (fits_spec (fr := fr) (ln := ln) ((h.fr0 fW).fr0 f1)).call ?_
    rintro _ w2 ⟨rfl, f2⟩
    have q2 := q1.trans0 f2
    have hm2 : mm w2 (sz w) = [i64 fr, i64 ln] := by rw [f2.mm hs1 (by simp), hm1]
    have hs2 := f2.lt hs1
    by_cases hfit : fitsM D.firm.length fr ln
    · have hft : (fitsM D.firm.length fr ln) = True := eq_true hfit
      have hG : clearM D fr ln = wipeGo ln.toNat D fr false := by unfold clearM; rw [if_neg hd', if_pos hfit]
      obtain ⟨h1, h2, h3, h4⟩ := id hfit
      have hl := hl hfit
      try simp (maxDischargeDepth := 8) [↓sC, sB, sM, hft, hm2, hs2]
      have hwp := wipe_spec (x := fr) (ni := ln) (n := ln.toNat) (h.fr0 q2) hf0 hf1 (by omega) (by omega) (by omega) (by omega)
      refine hwp.call ?_
      rintro _ w3 ⟨rfl, F', hd3, hg3⟩
      rw [hG]
      try simp (maxDischargeDepth := 8) [↓sC, sB, sM]
      exact ⟨F', hd3, q2.mono (by simp) |>.trans hg3.fr (fun k hk => .inl hk), fun k hk => (hg3.new k hk).imp id (fun h => Nat.le_trans q2.size h)⟩
    · have hft : (fitsM D.firm.length fr ln) = False := eq_false hfit
      have hG : clearM D fr ln = (D, 1) := by unfold clearM; rw [if_neg hd', if_neg hfit]
      try simp (maxDischargeDepth := 8) [↓sC, sB, sM, hft]
      rw [hG]
      exact ⟨rfl, F, h.fr0 q2, (Grow.refl F w).calm q2⟩
theorem fOk119 : fieldsOk P 124 = true := by kernel_rfl
theorem bd119 {w : World} {b : Nat} {fr ln at_ : Int} : pBuild P 124 [(0, pt b 0), (1, .agg #[i64 fr, i64 ln]), (2, i64 at_)] w = some (.agg #[pt b 0, i64 fr, i64 ln, i64 at_], w) := by
  rw [pBuild_struct hasZero124 fOk119 (fun p hp => ?_)]
  · simp [offF, splice]
  · simp only [List.mem_cons, List.not_mem_nil, or_false] at hp
    rcases hp with rfl | rfl | rfl
    · exact ⟨0, 38, field124n0, by simp, by simp⟩
    · exact ⟨1, 42, field124n1, by simp, by simp⟩
    · exact ⟨3, 3, field124n2, by simp, by simp⟩
/-- What 'Open' does to the disk, and its error. -/
noncomputable def openAt (D : DD) (fr ln : Int) : Nat := (scanM (areaS D fr.toNat ln.toNat)).2
noncomputable def openM (D : DD) (fr ln : Int) : DD × Int :=
  if D.down = true then (D, 14) else if fitsM D.firm.length fr ln then wipeGo (ln.toNat - openAt D fr ln) D (fr + openAt D fr ln) false else (D, 1)
structure OpenR (w : World) (b : Nat) (D : DD) (fr ln : Int) (F : List Nat) (x : Value) (w' : World) (F' : List Nat) : Prop where
  isd : IsD w' b (openM D fr ln).1 F'
  grow : Grow F w F' w'
  bad : (openM D fr ln).2 ≠ 0 → x = .tuple #[.pointer none, .slice none 0 0, i64 (openM D fr ln).2]
  good : (openM D fr ln).2 = 0 → ∃ r ov Lp, x = .tuple #[pt r 0, ov, i64 0] ∧ IsRoll w' r b fr ln (openAt D fr ln : Int) ∧ sz w ≤ r ∧ r ∉ F' ∧ EntR (sz w) w' ov Lp ∧ Lp.map (·.1) = (scanM (areaS D fr.toNat ln.toNat)).1 ∧
    (∀ p ∈ Lp, ∀ k, p.2.ownBlock = some k → k ≠ r ∧ k ∉ F') ∧ (∀ k, ov.ownBlock = some k → k ≠ r ∧ k ∉ F')
theorem open_rspec {w : World} {b : Nat} {D : DD} {F : List Nat} {fr ln : Int} (h : IsD w b D F) (hf0 : -9223372036854775808 ≤ fr) (hf1 : fr < 9223372036854775808) (hl : fitsM D.firm.length fr ln → ln ≤ 2000) (hm : D.pend.length + 2000 < 1000000) (hwr : D.writes + 2000 < 4611686018427387904) :
    Ret P 26 #[pt b 0, ar fr ln] w fun x w' => ∃ F', OpenR w b D fr ln F x w' F' := by
  refine F26ok ?_
  unfold F26 ar
  have hlen : D.firm.length ≤ 4096 := by obtain ⟨hw, _⟩ := id h; exact hw.len
  have hFlt : ∀ k ∈ F, k < sz w := h.ltF
  obtain ⟨W, hW⟩ : ∃ W, W = nw w [i64 fr, i64 ln] 42 := ⟨_, rfl⟩
  have fW : Fr [] w W := by rw [hW]; exact (Fr.refl [] w).nw _ _
  have hmm : mm W (sz w) = [i64 fr, i64 ln] := by rw [hW]; simp [sM]
  have hs : sz w < sz W := by rw [hW]; simp [sM]
  try simp (maxDischargeDepth := 8) [↓sC, sB, sM, ← hW, hmm, hs]
  have hsc := scan_spec (fr := fr) (ln := ln) (h.fr0 fW)
  unfold ar at hsc
  refine hsc.call ?_
  rintro x w1 ⟨f1, x1, x2, x3⟩
  have q1 := fW.trans0 f1
  have hm1 : mm w1 (sz w) = [i64 fr, i64 ln] := by rw [f1.mm hs (by simp), hmm]
  have hs1 := f1.lt hs
  cases hd : D.down with
  | true =>
    have hG : openM D fr ln = (D, 14) := by unfold openM; rw [if_pos hd]
    rw [x1 hd]
    try simp (maxDischargeDepth := 8) [↓sC, sB, sM]
    exact ⟨F, by rw [hG]; exact h.fr0 q1, (Grow.refl F w).calm q1, fun _ => by rw [hG], fun h0 => by rw [hG] at h0; simp at h0⟩
  | false =>
    have hd' : ¬ D.down = true := by simp [hd]
    by_cases hfit : fitsM D.firm.length fr ln
    · have hG : openM D fr ln = wipeGo (ln.toNat - openAt D fr ln) D (fr + openAt D fr ln) false := by unfold openM; rw [if_neg hd', if_pos hfit]
      obtain ⟨h1, h2, h3, h4⟩ := id hfit
      have hl := hl hfit
      obtain ⟨ov, Lp, rfl, hE, hLp⟩ := x3 hd hfit
      obtain ⟨at_, hat⟩ : ∃ a, a = openAt D fr ln := ⟨_, rfl⟩
      have hat2 : (scanM (areaS D fr.toNat ln.toNat)).2 = at_ := hat.symm
      have hale : at_ ≤ ln.toNat := by rw [← hat2]; have := scanM_le (areaS D fr.toNat ln.toNat); rw [areaS_len] at this; exact this
      rw [hat2]
      obtain ⟨y1, hy1⟩ : ∃ y1, y1 = fr + (at_ : Int) := ⟨_, rfl⟩
      obtain ⟨y2, hy2⟩ : ∃ y2, y2 = ln - (at_ : Int) := ⟨_, rfl⟩
      have a1 : IntKind.i64.wrap (fr + (at_ : Int)) = y1 := by rw [hy1]; exact wrap64 (by omega) (by omega)
      have a2 : IntKind.i64.wrap (ln - (at_ : Int)) = y2 := by rw [hy2]; exact wrap64 (by omega) (by omega)
      try simp (maxDischargeDepth := 8) [↓sC, sB, sM, hm1, hs1, a1, a2]
      have hwp := wipe_spec (x := y1) (ni := y2) (n := ln.toNat - at_) (h.fr0 q1) (by omega) (by omega) (by omega) (by omega) (by omega) (by omega)
      refine hwp.call ?_
      rintro _ w2 ⟨rfl, F', hd2, hg2⟩
      rw [hy1, hat, ← hG] at hd2 ⊢
      have hgw : Grow F w F' w2 := ⟨(q1.mono (T := F) (by simp)).trans hg2.fr (fun k hk => .inl hk), fun k hk => (hg2.new k hk).imp id (fun h => Nat.le_trans q1.size h)⟩
      have hm2 : mm w2 (sz w) = [i64 fr, i64 ln] := by rw [hg2.fr.mm hs1 (fun hk => by have := hFlt _ hk; omega), hm1]
      have hs2 := hg2.fr.lt hs1
      have hE2 : EntR (sz W) w2 ov Lp := hE.fr hg2.fr (fun k hk => by have := hFlt k hk; omega)
      obtain ⟨code, hcode⟩ : ∃ code, code = (openM D fr ln).2 := ⟨_, rfl⟩
      rw [← hcode]
      by_cases hc : code = 0
      · have hc1 : (code = 0) = True := eq_true hc
        try simp (maxDischargeDepth := 8) [↓sC, sB, sM, hc1, hm2, hs2, bd119]
        have fN : Fr [] w2 (nw w2 [pt b 0, i64 fr, i64 ln, i64 (openAt D fr ln : Int)] 124) := (Fr.refl [] w2).nw _ _
        have hF'lt : ∀ k ∈ F', k < sz w2 := hd2.ltF
        have hE3 := hE2.fr fN (by simp)
        have hsz2 : sz w ≤ sz w2 := hgw.fr.size
        have hnew : ∀ k, sz W ≤ k → k < sz w1 → k ≠ sz w2 ∧ k ∉ F' := fun k hk hk2 => by
          have := hg2.fr.size
          refine ⟨by omega, fun hkF => ?_⟩
          rcases hg2.new k hkF with h | h
          · have := hFlt k h; omega
          · omega
        refine ⟨F', hd2.fr0 fN, hgw.calm fN, fun h0 => absurd (hcode.symm.trans hc) h0, fun _ => ⟨sz w2, ov, Lp, ?_, ⟨?_, ?_⟩, hsz2, fun hk => by have := hF'lt _ hk; omega, ?_, hLp, fun p hp k hk => ?_, fun k hk => ?_⟩⟩
        · rfl
        · simp [sM]
        · simp [sM]
        · exact ⟨⟨hE3.own.1, by
            rcases hE3.own.2 with h | ⟨g, cap, cur, c1, c2, c3⟩
            · exact .inl h
            · exact .inr ⟨g, cap, cur, c1, by omega, c3⟩⟩, hE3.el, fun p hp k hk => ⟨by have := (hE3.lt p hp k hk).1; omega, (hE3.lt p hp k hk).2.1, (hE3.lt p hp k hk).2.2⟩⟩
        · obtain ⟨k1, k2, _⟩ := hE.lt p hp k hk
          exact hnew k k1 k2
        · obtain ⟨k1, k2⟩ := own_lt hE.own k hk
          exact hnew k k1 k2
      · have hc1 : (code = 0) = False := eq_false hc
        try simp (maxDischargeDepth := 8) [↓sC, sB, sM, hc1]
        exact ⟨F', hd2, hgw, fun _ => by rw [hcode], fun h0 => absurd (hcode.trans h0) hc⟩
    · have hG : openM D fr ln = (D, 1) := by unfold openM; rw [if_neg hd', if_neg hfit]
      rw [x2 hd hfit]
      try simp (maxDischargeDepth := 8) [↓sC, sB, sM]
      exact ⟨F, by rw [hG]; exact h.fr0 q1, (Grow.refl F w).calm q1, fun _ => by rw [hG], fun h0 => by rw [hG] at h0; simp at h0⟩
end Go.Proofs.YtieejbkbdfccdaaGreat
