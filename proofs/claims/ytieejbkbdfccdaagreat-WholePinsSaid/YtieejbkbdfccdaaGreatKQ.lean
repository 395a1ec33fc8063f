/- DiskTorn's walk: behind a crash each byte is what it was, or what it was to be. -/
import Derived.Test.YtieejbkbdfccdaaGreatKP
import Derived.Test.YtieejbkbdfccdaaGreatKH
import Derived.Test.YtieejbkbdfccdaaGreatSim
import Derived.Test.YtieejbkbdfccdaaGreatPrims4
import Derived.Test.YtieejbkbdfccdaaGreatTypes
import Derived.Test.YtieejbkbdfccdaaGreatKM
set_option linter.unusedVariables false
set_option linter.unusedSimpArgs false
namespace Go.Proofs.YtieejbkbdfccdaaGreat
open Go
end Go.Proofs.YtieejbkbdfccdaaGreat

set_option linter.unusedVariables false
set_option linter.unusedSimpArgs false
namespace Go.Proofs.YtieejbkbdfccdaaGreat
open Go
end Go.Proofs.YtieejbkbdfccdaaGreat

set_option linter.unusedVariables false
set_option linter.unusedSimpArgs false
namespace Go.Proofs.YtieejbkbdfccdaaGreat
open Go
theorem gb_tear {a b : List UInt8} {m i : Nat} (ha : a.length = 64) (hb : b.length = 64) (hi : i < 64) : gb (tear b a m) i = if i < m then gb a i else gb b i := by
  unfold gb tear
  simp only [List.getD_eq_getElem?_getD, List.getElem?_append, List.length_take, List.getElem?_take, List.getElem?_drop]
  by_cases h : i < m
  · have : i < min m a.length := by omega
    simp [h, this]
  · have h2 : ¬ i < min m a.length := by omega
    have h3 : m + (i - min m a.length) = i := by omega
    simp only [h2, h, if_false, h3]
theorem whole_neu {l : List UInt8} {m : Nat} (h : l.length ≤ 61) (hm : m ≤ 64) : isWhole (tear (zb 64) (sealOf l) m) ↔ m = 64 := by
  constructor
  · intro hw
    by_cases h0 : m = 64
    · exact h0
    · have := hw.2.1
      rw [gb_tear (sealOf_length h) (by simp) (by omega), if_neg (by omega), gb_zb] at this
      exact absurd this (by decide)
  · rintro rfl
    have : tear (zb 64) (sealOf l) 64 = sealOf l := by
      rw [tear, List.take_of_length_le (by rw [sealOf_length h]; omega), List.drop_eq_nil_of_le (by simp), List.append_nil]
    rw [this]
    exact (whole_sealOf h).1
end Go.Proofs.YtieejbkbdfccdaaGreat

set_option linter.unusedVariables false
set_option linter.unusedSimpArgs false
namespace Go.Proofs.YtieejbkbdfccdaaGreat
open Go
/-- A disk's blocks, grown from F. -/
structure Grow (F : List Nat) (w : World) (F' : List Nat) (w' : World) : Prop where
  fr : Fr F w w'
  new : ∀ k ∈ F', k ∈ F ∨ sz w ≤ k
theorem Grow.refl (F : List Nat) (w : World) : Grow F w F w := ⟨Fr.refl _ _, fun k hk => .inl hk⟩
theorem Grow.step {F F' F'' : List Nat} {w w' w'' : World} (h : Grow F w F' w') (hf : Fr F' w' w'') (hF : ∀ k ∈ F'', k ∈ F' ∨ sz w' ≤ k) : Grow F w F'' w'' :=
  ⟨h.fr.trans hf h.new, fun k hk => (hF k hk).elim (h.new k) fun h2 => .inr (Nat.le_trans h.fr.size h2)⟩
theorem Grow.same {F F' : List Nat} {w w' w'' : World} (h : Grow F w F' w') (hf : Fr F' w' w'') : Grow F w F' w'' := h.step hf fun k hk => .inl hk
theorem Grow.calm {F F' : List Nat} {w w' w'' : World} (h : Grow F w F' w') (hf : Fr [] w' w'') : Grow F w F' w'' := ⟨h.fr.trans0 hf, h.new⟩
theorem Own.grow {w0 w w' : World} {F F' : List Nat} (h : Own w0 w F) (g : Grow F w F' w') : Own w0 w' F' := h.step g.fr g.new
def wipeGo : Nat → DD → Int → Bool → DD × Int
  | 0, D, _, so => if so = true then (syncD D, if D.down then 14 else 0) else (D, 0)
  | n + 1, D, x, so =>
    if okE D x = 0 then
      if readD D x = zb 64 then wipeGo n D (x + 1) so
      else if writeE D x = 0 then wipeGo n (writeD D x (zb 64)) (x + 1) true
      else (writeD D x (zb 64), writeE D x)
    else (D, okE D x)
theorem okE_range {D : DD} {x : Int} (h : okE D x = 0) : 0 ≤ x ∧ x < D.firm.length ∧ D.down = false := by
  unfold okE at h
  split at h
  · omega
  · split at h
    · omega
    · rename_i h1 h2
      exact ⟨by omega, by omega, by simpa using h1⟩
def WipeI (G : DD × Int) (w : World) (b : Nat) (D : DD) (F : List Nat) (x : Int) (n : Nat) (m : Nat) (e : Env) (w' : World) : Prop :=
  ∃ (k : Nat) (D' : DD) (F' : List Nat) (so : Bool), m = n - k ∧ k ≤ n ∧ IsD w' b D' F' ∧ Grow F w F' w' ∧ D'.pend.length ≤ D.pend.length + k ∧
    D'.writes ≤ D.writes + k ∧ wipeGo (n - k) D' (x + k) so = G ∧ (k = 0 ∨ (0 ≤ x + k ∧ x + k ≤ 5000)) ∧
    e 15 = i64 k ∧ e 14 = i64 n ∧ e 0 = pt b 0 ∧ e 1 = i64 x ∧ e 7 = .bool so
theorem wipe_spec {w : World} {b : Nat} {D : DD} {F : List Nat} {x ni : Int} {n : Nat} (h : IsD w b D F) (hx0 : -9223372036854775808 ≤ x) (hx1 : x < 9223372036854775808)
    (hn : n ≤ 2000) (hni : max ni 0 = n) (hm : D.pend.length + n < 1000000) (hwr : D.writes + n < 4611686018427387904) :
    Ret P 30 #[pt b 0, i64 x, i64 ni] w fun v w' => v = i64 (wipeGo n D x false).2 ∧ ∃ F', IsD w' b (wipeGo n D x false).1 F' ∧ Grow F w F' w' := by
  refine F30ok ?_
  unfold F30
  try simp (maxDischargeDepth := 8) [max_int, hni, ↓sC, sB, sM]
  obtain ⟨G, hG⟩ : ∃ G, G = wipeGo n D x false := ⟨_, rfl⟩
  rw [← hG]
  refine loopE_of (WipeI G w b D F x n) n ?_ ?_
  · refine ⟨0, D, F, false, by omega, by omega, h, Grow.refl _ _, by omega, by omega, by simp [hG], .inl rfl, ?_⟩
    simp [put_get, argE_get]
  · rintro m e w' ⟨k, D', F', so, rfl, hk, hd, hg, hp, hw', hgo, hr, e15, e14, e0, e1, e7⟩
    unfold F30B0
    by_cases hkn : k < n
    · have hrange : -9223372036854775808 ≤ x + k ∧ x + k < 9223372036854775808 := by
        rcases hr with rfl | ⟨h1, h2⟩
        · simp; exact ⟨hx0, hx1⟩
        · omega
      have hwx : IntKind.i64.wrap (x + k) = x + k := wrap64 hrange.1 (by omega)
      have hwk : IntKind.i64.wrap ((k : Int) + 1) = ((k + 1 : Nat) : Int) := wrap64 (by omega) (by omega)
      have hki : (k : Int) < n := by omega
      obtain ⟨j, hj⟩ : ∃ j, n - k = j + 1 := ⟨n - k - 1, by omega⟩
      have hj' : n - (k + 1) = j := by omega
      rw [hj] at hgo
      unfold wipeGo at hgo
      try simp (maxDischargeDepth := 8) [↓sC, sB, sM, e15, e14, e0, e1, hwx, hki]
      refine (read_spec hd hrange.1 hrange.2).call ?_
      rintro _ w1 ⟨rfl, hf1⟩
      have hd1 := hd.fr0 hf1
      by_cases hok : okE D' (x + k) = 0
      · obtain ⟨hr0, hr1, hdn⟩ := okE_range hok
        have hlen : (readD D' (x + k)).length = 64 := readD_len hd.1 hr0 hr1
        have hf4096 := hd.1.len
        rw [if_pos hok] at hgo
        generalize hS : readD D' (x + k) = S at *
        rw [hok, if_pos rfl]
        try simp (maxDischargeDepth := 8) [↓sC, sB, sM, e15, e14, e0, e1, hwx, hlen, List.take_of_length_le]
        generalize hw2 : wr (nw w1 (bs (zb 64)) 90) (sz w1) (bs S) = w2
        have hf2 : Fr [] w1 w2 := by rw [← hw2]; exact ((Fr.refl [] w1).nw _ _).wr (.inr (Nat.le_refl _)) _
        have hd2 := hd1.fr0 hf2
        refine (blank_spec hlen).call ?_
        rintro _ w3 ⟨rfl, hf3⟩
        have hd3 := hd2.fr0 hf3
        have hg3 := ((hg.calm hf1).calm hf2).calm hf3
        by_cases hz : S = zeros
        · rw [if_pos hz] at hgo
          try simp (maxDischargeDepth := 8) [↓sC, sB, sM, e15, e14, e0, e1, hwx, hz, hwk]
          refine ⟨n - (k + 1), by omega, k + 1, D', F', so, rfl, by omega, hd3, hg3, by omega, by omega, ?_, ?_, ?_⟩
          · rw [hj', ← hgo]; congr 1; omega
          · right; omega
          · simp [put_get, e15, e14, e0, e1, e7]
        · rw [if_neg hz] at hgo
          try simp (maxDischargeDepth := 8) [↓sC, sB, sM, e15, e14, e0, e1, hwx, hz, hwk]
          refine (write_spec hd3 (x := x + k) (s := zb 64) (by simp) (by omega) (by omega)).call ?_
          rintro _ w4 ⟨rfl, F4, hd4, hf4, hF4⟩
          have hg4 := hg3.step hf4 hF4
          have hpl : (writeD D' (x + k) (zb 64)).pend.length = D'.pend.length + 1 := by simp [writeD, hok]
          have hwl : (writeD D' (x + k) (zb 64)).writes = D'.writes + 1 := by simp [writeD, hok]
          by_cases hwe : writeE D' (x + k) = 0
          · rw [if_pos hwe] at hgo
            try simp (maxDischargeDepth := 8) [↓sC, sB, sM, e15, e14, e0, e1, hwx, hz, hwk, hwe]
            refine ⟨n - (k + 1), by omega, k + 1, writeD D' (x + k) (zb 64), F4, true, rfl, by omega, hd4, hg4, by omega, by omega, ?_, ?_, ?_⟩
            · rw [hj', ← hgo]; congr 1; omega
            · right; omega
            · simp [put_get, e15, e14, e0, e1, e7]
          · rw [if_neg hwe] at hgo
            try simp (maxDischargeDepth := 8) [↓sC, sB, sM, e15, e14, e0, e1, hwx, hz, hwk, hwe]
            rw [← hgo]
            exact ⟨rfl, F4, hd4, hg4⟩
      · rw [if_neg hok] at hgo
        rw [if_neg hok]
        try simp (maxDischargeDepth := 8) [↓sC, sB, sM, e15, e14, e0, e1, hwx, hok]
        have hf2 : Fr [] w1 (wr (nw w1 (bs (zb 64)) 90) (sz w1) (bs (zb 64))) := ((Fr.refl [] w1).nw _ _).wr (.inr (Nat.le_refl _)) _
        rw [← hgo]
        exact ⟨rfl, F', hd1.fr0 hf2, (hg.calm hf1).calm hf2⟩
    · have hkk : k = n := by omega
      subst hkk
      rw [Nat.sub_self] at hgo
      unfold wipeGo at hgo
      cases so with
      | false =>
        try simp (maxDischargeDepth := 8) [↓sC, sB, sM, e15, e14, e0, e1, e7]
        rw [← hgo]
        exact ⟨rfl, F', hd, hg⟩
      | true =>
        try simp (maxDischargeDepth := 8) [↓sC, sB, sM, e15, e14, e0, e1, e7]
        refine (sync_spec hd).call ?_
        rintro _ w1 ⟨rfl, hd1, hf1⟩
        try simp (maxDischargeDepth := 8) [↓sC, sB, sM]
        rw [← hgo]
        exact ⟨rfl, F', hd1, hg.same hf1⟩
end Go.Proofs.YtieejbkbdfccdaaGreat

set_option linter.unusedVariables false
set_option linter.unusedSimpArgs false
namespace Go.Proofs.YtieejbkbdfccdaaGreat
open Go
theorem syncF_snoc' (f : List (List UInt8)) (L : List (Int × List UInt8)) (p : Int × List UInt8) : syncF f (L ++ [p]) = (syncF f L).set p.1.toNat p.2 := syncF_snoc f L p
theorem syncF_len' (f : List (List UInt8)) (L : List (Int × List UInt8)) : (syncF f L).length = f.length := syncF_length f L
/-- What a read tells, in one form. -/
def view (D : DD) (i : Nat) : List UInt8 := readD D i
theorem rev_ind {α : Type} {M : List α → Prop} (h0 : M []) (h1 : ∀ L a, M L → M (L ++ [a])) (L : List α) : M L := by
  have : ∀ K : List α, M K.reverse := by
    intro K
    induction K with
    | nil => exact h0
    | cons a K ih => rw [List.reverse_cons]; exact h1 _ _ ih
  simpa using this L.reverse
theorem sync_view {f : List (List UInt8)} {L : List (Int × List UInt8)} (h : ∀ p ∈ L, 0 ≤ p.1 ∧ p.1 < (f.length : Int)) (i : Nat) : (syncF f L).getD i [] = (lastW L i).getD (f.getD i []) := by
  revert h
  refine rev_ind (M := fun L => (∀ p ∈ L, 0 ≤ p.1 ∧ p.1 < (f.length : Int)) → (syncF f L).getD i [] = (lastW L i).getD (f.getD i [])) ?_ ?_ L
  · intro _; rfl
  · intro L p ih h
    have ih := ih fun q hq => h q (by simp [hq])
    have hp := h p (by simp)
    rw [syncF_snoc', lastW_snoc]
    by_cases hx : p.1 = i
    · rw [if_pos hx]
      have : p.1.toNat = i := by omega
      rw [this, List.getD_eq_getElem?_getD, List.getElem?_set]
      rw [if_pos rfl, if_pos (by rw [syncF_len']; omega)]; rfl
    · rw [if_neg hx, ← ih]
      have : ¬ p.1.toNat = i := by omega
      rw [List.getD_eq_getElem?_getD, List.getElem?_set, if_neg this, ← List.getD_eq_getElem?_getD]
theorem view_write {D : DD} {x : Int} {s : List UInt8} (h : okE D x = 0) (i : Nat) : view (writeD D x s) i = if x = i then s else view D i := by
  unfold view readD writeD
  rw [if_pos h]
  simp only
  rw [lastW_snoc]
  by_cases hx : x = i
  · simp [hx]
  · simp [hx]
/-- How many of n from x on are not blank. -/
def cnt (v : Nat → List UInt8) : Nat → Nat → Nat
  | _, 0 => 0
  | x, n + 1 => cnt v x n + (if v (x + n) = zb 64 then 0 else 1)
theorem cnt_front (v : Nat → List UInt8) (x n : Nat) : cnt v x (n + 1) = (if v x = zb 64 then 0 else 1) + cnt v (x + 1) n := by
  induction n with
  | zero => simp [cnt]
  | succ n ih =>
    rw [cnt, ih, cnt]
    rw [show x + (n + 1) = x + 1 + n by omega]
    omega
theorem cnt_congr {v v' : Nat → List UInt8} {x n : Nat} (h : ∀ i, x ≤ i → i < x + n → v i = v' i) : cnt v x n = cnt v' x n := by
  induction n with
  | zero => rfl
  | succ n ih => rw [cnt, cnt, ih (fun i a b => h i a (by omega)), h (x + n) (by omega) (by omega)]
/-- A disk that is up, and stays up. -/
structure Calm (D : DD) : Prop where
  down : D.down = false
  left : D.left = 0
  len : D.firm.length = 16
  pend : ∀ p ∈ D.pend, 0 ≤ p.1 ∧ p.1 < D.firm.length
theorem Calm.ok {D : DD} (h : Calm D) {x : Nat} (hx : x < 16) : okE D x = 0 := by
  unfold okE; rw [h.down, h.len]; simp; omega
theorem Calm.write {D : DD} (h : Calm D) {x : Nat} (hx : x < 16) (s : List UInt8) : Calm (writeD D x s) := by
  unfold writeD
  rw [if_pos (h.ok hx)]
  refine ⟨by simp [h.left], by simp [h.left], h.len, fun p hp => ?_⟩
  simp only [List.mem_append, List.mem_singleton] at hp
  rcases hp with hp | rfl
  · exact h.pend p hp
  · simp only; rw [h.len]; omega
end Go.Proofs.YtieejbkbdfccdaaGreat

set_option linter.unusedVariables false
set_option linter.unusedSimpArgs false
namespace Go.Proofs.YtieejbkbdfccdaaGreat
open Go
theorem rd_sub {w : World} {ab ao N ac : Nat} {B : List UInt8} (h : RdV w (sl ab ao N ac) N (bs B)) (hN : B.length = N) {lo hi : Nat} (h1 : lo ≤ hi) (h2 : hi ≤ N) :
    RdV w (.slice (some ⟨ab, if ac = lo then ao else ao + lo * 1, none⟩) (hi - lo) (ac - lo)) ((B.drop lo).take (hi - lo)).length (bs ((B.drop lo).take (hi - lo))) := by
  have hl : ((B.drop lo).take (hi - lo)).length = hi - lo := by simp; omega
  rw [hl]
  rcases h with ⟨a, c, hv, h0, _⟩ | ⟨b, o, c, hv, hc1, hc2, hlt, hin, hcs⟩
  · have : hi - lo = 0 := by omega
    rw [this]
    exact .inl ⟨_, _, rfl, rfl, by simp [bs]⟩
  · simp only [Value.slice.injEq, Option.some.injEq, Addr.mk.injEq] at hv
    obtain ⟨⟨rfl, rfl, _⟩, _, rfl⟩ := hv
    by_cases h0 : hi - lo = 0
    · rw [h0]
      exact .inl ⟨_, _, rfl, rfl, by simp [bs]⟩
    · have hne : ¬ ac = lo := by omega
      rw [if_neg hne, Nat.mul_one]
      rw [bs_length] at hin hcs
      refine .inr ⟨ab, ao + lo, ac - lo, rfl, by omega, by omega, hlt, by rw [bs_length, hl]; omega, ?_⟩
      rw [bs_length, hl, ← bs_take, ← bs_drop, ← hcs, List.drop_take, List.take_take, List.drop_drop]
      congr 1
      omega
theorem pSlice_any {t e : TypeId} {a : Option Addr} {n c : Nat} {lo hi : Option Value} (hs : sliceE P t = some e) (he : tyOk P e = true) (hlo : isB lo = true) (hhi : isB hi = true)
    (h0 : 0 ≤ bLo lo) (h1 : bLo lo ≤ bHi n hi) (h2 : bHi n hi ≤ c) (hnc : n ≤ c) (w : World) :
    pSlice P t (.slice a n c) lo hi none w = some (.slice (if c = (bLo lo).toNat then a else a.map (·.add ((bLo lo).toNat * P.cellsOf e))) ((bHi n hi).toNat - (bLo lo).toNat) (c - (bLo lo).toNat), w) := by
  have hu := sliceE_und hs
  simp only [pSlice, runV, Instr.sliceAt, Sem.run_bind, run_underlying hu, Result.andThen_ok, Instr.slice, run_bounds hlo hhi h0 h1 h2 hnc, run_size he, Sem.run_pure]
theorem sl_mid {t : TypeId} {w : World} {v : Value} {B : List UInt8} {lo hi : Nat} (hs : sliceE P t = some 5) (h : RdV w v B.length (bs B)) (h1 : lo ≤ hi) (h2 : hi ≤ B.length) :
    ∃ S, (∀ w', pSlice P t v (some (i64 lo)) (some (i64 hi)) none w' = some (S, w')) ∧ RdV w S ((B.drop lo).take (hi - lo)).length (bs ((B.drop lo).take (hi - lo))) ∧ S.oneCell' = true := by
  rcases id h with ⟨a, c, rfl, h0, _⟩ | ⟨ab, ao, ac, rfl, hac, _⟩
  · have hl0 : lo = 0 := by omega
    have hh0 : hi = 0 := by omega
    subst hl0; subst hh0
    refine ⟨_, fun w' => pSlice_any (w := w') (a := a) (n := 0) (c := c) (lo := some (i64 (0 : Nat))) (hi := some (i64 (0 : Nat))) hs tyOk5 rfl rfl (by simp [bLo]) (by simp [bLo, bHi]) (by simp [bHi]) (by omega), ?_, rfl⟩
    exact .inl ⟨_, _, rfl, by simp, by simp [bs]⟩
  · have hsub := rd_sub h rfl h1 h2
    refine ⟨_, fun w' => ?_, hsub, rfl⟩
    rw [pSlice_any (w := w') (n := B.length) (c := ac) (lo := some (i64 lo)) (hi := some (i64 hi)) hs tyOk5 rfl rfl (by simp [bLo]) (by simp [bLo, bHi]; omega) (by simp [bHi]; omega) hac]
    have ea : (if ac = (bLo (some (i64 (lo : Int)))).toNat then (some ⟨ab, ao, none⟩ : Option Addr) else (some (⟨ab, ao, none⟩ : Addr)).map (·.add ((bLo (some (i64 (lo : Int)))).toNat * P.cellsOf 5))) = some ⟨ab, if ac = lo then ao else ao + lo * 1, none⟩ := by
      rw [cellsOf5]
      simp only [bLo, Int.toNat_natCast, Option.map_some]
      by_cases hac2 : ac = lo
      · simp [hac2]
      · by_cases hl0 : lo = 0
        · subst hl0; simp [Addr.add]
        · simp [Addr.add, hac2, hl0]
    rw [ea]
    simp only [bLo, bHi, Int.toNat_natCast]
theorem sl_from {t : TypeId} {w : World} {v : Value} {B : List UInt8} {lo : Nat} (hs : sliceE P t = some 5) (h : RdV w v B.length (bs B)) (h1 : lo ≤ B.length) :
    ∃ S, (∀ w', pSlice P t v (some (i64 lo)) none none w' = some (S, w')) ∧ RdV w S (B.drop lo).length (bs (B.drop lo)) ∧ S.oneCell' = true := by
  rcases id h with ⟨a, c, rfl, h0, _⟩ | ⟨ab, ao, ac, rfl, hac, _⟩
  · have hl0 : lo = 0 := by omega
    subst hl0
    have hB : B = [] := List.eq_nil_of_length_eq_zero h0
    subst hB
    refine ⟨_, fun w' => pSlice_any (w := w') (a := a) (n := 0) (c := c) (lo := some (i64 (0 : Nat))) (hi := none) hs tyOk5 rfl rfl (by simp [bLo]) (by simp [bLo, bHi]) (by simp [bHi]) (by omega), ?_, rfl⟩
    exact .inl ⟨_, _, rfl, by simp, by simp [bs]⟩
  · have hsub := rd_sub h rfl (lo := lo) (hi := B.length) h1 (Nat.le_refl _)
    have e1 : (B.drop lo).take (B.length - lo) = B.drop lo := List.take_of_length_le (by simp)
    rw [e1] at hsub
    refine ⟨_, fun w' => ?_, hsub, rfl⟩
    rw [pSlice_any (w := w') (n := B.length) (c := ac) (lo := some (i64 lo)) (hi := none) hs tyOk5 rfl rfl (by simp [bLo]) (by simp [bLo, bHi]; omega) (by simp [bHi]; omega) hac]
    have ea : (if ac = (bLo (some (i64 (lo : Int)))).toNat then (some ⟨ab, ao, none⟩ : Option Addr) else (some (⟨ab, ao, none⟩ : Addr)).map (·.add ((bLo (some (i64 (lo : Int)))).toNat * P.cellsOf 5))) = some ⟨ab, if ac = lo then ao else ao + lo * 1, none⟩ := by
      rw [cellsOf5]
      simp only [bLo, Int.toNat_natCast, Option.map_some]
      by_cases hac2 : ac = lo
      · simp [hac2]
      · by_cases hl0 : lo = 0
        · subst hl0; simp [Addr.add]
        · simp [Addr.add, hac2, hl0]
    rw [ea]
    simp only [bLo, bHi, Int.toNat_natCast]
theorem rd_cell {w : World} {v : Value} {B : List UInt8} (h : RdV w v B.length (bs B)) {i : Nat} (hi : i < B.length) : ∃ ab ao ac, v = sl ab ao B.length ac ∧ ao + i < (mm w ab).length ∧ gt (mm w ab) (ao + i) = bv (gb B i) := by
  rcases id h with ⟨_, _, _, h0, _⟩ | ⟨ab, ao, ac, rfl, _⟩
  · omega
  · obtain ⟨h1, h2⟩ := h.cell (j := i) (by simpa using hi)
    exact ⟨ab, ao, ac, rfl, h1, h2.trans (gt_bs hi)⟩
theorem own_nw {w : World} {base e size : Nat} {l : List Value} {n : Nat} (hb : base ≤ sz w) (hl : l.length = n * size) (hn : n ≤ maxLen) : (nw w l e).ownsRow base e size (sl (sz w) 0 n n) n l := by
  refine ⟨hl, .inr ⟨sz w, n, l.toArray, rfl, hb, ?_, Nat.le_refl _, hn, by simpa using hl, by simp [← hl]⟩⟩
  unfold nw sz
  simp
end Go.Proofs.YtieejbkbdfccdaaGreat
