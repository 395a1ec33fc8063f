/- Entries as sectors: plain definitions. -/
import Derived.Test.YtieejbkbdfccdaaGreatKP
import Derived.Test.YtieejbkbdfccdaaGreatSim
import Derived.Test.YtieejbkbdfccdaaGreatKH
import Derived.Test.YtieejbkbdfccdaaGreatKQ
import Derived.Test.YtieejbkbdfccdaaGreatPrims4
set_option linter.unusedVariables false
set_option linter.unusedSimpArgs false
namespace Go.Proofs.YtieejbkbdfccdaaGreat
open Go
/-- How many sectors an entry of n bytes takes. -/
def need (n : Nat) : Nat := max ((n + 59) / 60) 1
theorem need_pos (n : Nat) : 1 ≤ need n := by unfold need; omega
/-- A part of an entry, with how many come behind it. -/
def partS (b : List UInt8) (n i : Nat) : List UInt8 := UInt8.ofNat (n - 1 - i) :: (b.drop (60 * i)).take 60
def sectorsM (b : List UInt8) : List (List UInt8) := (List.range (need b.length)).map fun i => sealOf (partS b (need b.length) i)
theorem sectorsM_len (b : List UInt8) : (sectorsM b).length = need b.length := by simp [sectorsM]
def leftOf (s : List UInt8) : Nat := (gb (pay s) 0).toNat
def firstOf (n first : Nat) (s : List UInt8) : Nat := if n = 0 then leftOf s else first
def badP (n first : Nat) (s : List UInt8) : Prop := (leftOf s : Int) ≠ (first : Int) - n ∨ 63 < leftOf s ∨ (0 < leftOf s ∧ (pay s).length ≠ 61) ∨ (0 < n ∧ leftOf s = 0 ∧ (pay s).length = 1)
instance (n first : Nat) (s : List UInt8) : Decidable (badP n first s) := by unfold badP; infer_instance
/-- The entry that sectors begin with, as the code finds it. -/
noncomputable def oneGo : List (List UInt8) → Nat → Nat → List UInt8 → Option (List UInt8 × Nat)
  | [], _, _, _ => none
  | s :: r, n, first, out =>
    if isWhole s ∧ 1 ≤ (pay s).length then
      if badP n (firstOf n first s) s then none
      else if leftOf s = 0 then some (out ++ (pay s).drop 1, n + 1)
      else oneGo r (n + 1) (firstOf n first s) (out ++ (pay s).drop 1)
    else none
noncomputable def oneM (S : List (List UInt8)) : Option (List UInt8 × Nat) := oneGo S 0 0 []
theorem oneGo_pos : ∀ (S : List (List UInt8)) (n first : Nat) (out b : List UInt8) (k : Nat), oneGo S n first out = some (b, k) → n < k ∧ k ≤ n + S.length := by
  intro S
  induction S with
  | nil => intro n first out b k h; simp [oneGo] at h
  | cons s r ih =>
    intro n first out b k h
    rw [oneGo] at h
    split at h
    · split at h
      · cases h
      · split at h
        · simp only [Option.some.injEq, Prod.mk.injEq] at h
          obtain ⟨_, rfl⟩ := h
          simp
        · obtain ⟨h1, h2⟩ := ih _ _ _ _ _ h
          simp; omega
    · cases h
/-- The entries that sectors begin with. -/
noncomputable def scanGo : Nat → List (List UInt8) → Nat → List (List UInt8) × Nat
  | 0, _, at_ => ([], at_)
  | f + 1, S, at_ => match oneM S with
    | none => ([], at_)
    | some (b, n) => (b :: (scanGo f (S.drop n) (at_ + n)).1, (scanGo f (S.drop n) (at_ + n)).2)
noncomputable def scanM (S : List (List UInt8)) : List (List UInt8) × Nat := scanGo S.length S 0
theorem scanGo_none {S : List (List UInt8)} (h : oneM S = none) (f at_ : Nat) : scanGo f S at_ = ([], at_) := by
  cases f with
  | zero => rfl
  | succ f => rw [scanGo, h]
theorem scanGo_some {S : List (List UInt8)} {b : List UInt8} {n : Nat} (h : oneM S = some (b, n)) {f at_ : Nat} (hf : S.length ≤ f) :
    ∃ f', f = f' + 1 ∧ (S.drop n).length ≤ f' ∧ scanGo f S at_ = (b :: (scanGo f' (S.drop n) (at_ + n)).1, (scanGo f' (S.drop n) (at_ + n)).2) := by
  obtain ⟨h1, h2⟩ := oneGo_pos S 0 0 [] b n h
  cases f with
  | zero => omega
  | succ f => exact ⟨f, rfl, by simp; omega, by rw [scanGo, h]⟩
end Go.Proofs.YtieejbkbdfccdaaGreat

set_option linter.unusedVariables false
set_option linter.unusedSimpArgs false
namespace Go.Proofs.YtieejbkbdfccdaaGreat
open Go
theorem rneed_spec {w : World} {n : Nat} (hn : n ≤ 1000000000) : Ret P 22 #[i64 n] w fun v w' => v = i64 (need n) ∧ Fr [] w w' := by
  refine F22ok ?_
  unfold F22
  have h1 : IntKind.i64.wrap ((n : Int) + 60) = (n : Int) + 60 := wrap64 (by omega) (by omega)
  have h2 : IntKind.i64.wrap ((n : Int) + 60 - 1) = ((n + 59 : Nat) : Int) := by rw [wrap64 (by omega) (by omega)]; omega
  have hq : ∀ w, pBin P .quo 3 true (i64 ((n + 59 : Nat) : Int)) (Value.int .i64 60) w = some (i64 (((n + 59) / 60 : Nat) : Int), w) := fun w => by
    rw [pBin_quo (by omega)]
    have : ((n + 59 : Nat) : Int).tdiv 60 = (((n + 59) / 60 : Nat) : Int) := rfl
    rw [this, wrap64 (by omega) (by omega)]
  obtain ⟨q, hqq⟩ : ∃ q, q = (n + 59) / 60 := ⟨_, rfl⟩
  obtain ⟨m, hm⟩ : ∃ m, m = n + 59 := ⟨_, rfl⟩
  rw [← hqq, ← hm] at hq
  rw [← hm] at h2
  have hmx : max (q : Int) 1 = ((need n : Nat) : Int) := by unfold need; rw [← hqq]; omega
  simp (maxDischargeDepth := 8) [↓sC, sB, sM, h1, h2, hq, hmx]
/-- Is an area one of a disk of n sectors? -/
def fitsM (n : Nat) (fr ln : Int) : Prop := 0 ≤ fr ∧ 1 ≤ ln ∧ fr < n ∧ ln ≤ n - fr
instance (n : Nat) (fr ln : Int) : Decidable (fitsM n fr ln) := by unfold fitsM; infer_instance
def ar (fr ln : Int) : Value := .agg #[i64 fr, i64 ln]
theorem fits_spec {w : World} {b : Nat} {D : DD} {F : List Nat} {fr ln : Int} (h : IsD w b D F) : Ret P 52 #[pt b 0, ar fr ln] w fun v w' => v = .bool (decide (fitsM D.firm.length fr ln)) ∧ Fr [] w w' := by
  refine F52ok ?_
  unfold F52 ar
  obtain ⟨W, hW⟩ : ∃ W, W = drew (nw w [i64 fr, i64 ln] 42) := ⟨_, rfl⟩
  have fW : Fr [] w W := by rw [hW]; exact ((Fr.refl [] w).nw _ _).drew
  have hm : mm W (sz w) = [i64 fr, i64 ln] := by rw [hW]; simp [sM]
  have hs : sz w < sz W := by rw [hW]; simp [sM]
  have hlen : D.firm.length ≤ 4096 := by obtain ⟨hw, _⟩ := id h; exact hw.len
  simp (maxDischargeDepth := 8) [↓sC, sB, sM, ← hW, hm, hs]
  by_cases h1 : 0 ≤ fr
  · by_cases h2 : 1 ≤ ln
    · simp (maxDischargeDepth := 8) [↓sC, sB, sM, hm, h1, h2]
      refine (len_spec (h.fr0 fW)).call ?_
      rintro _ w1 ⟨rfl, f1⟩
      have hm1 : mm w1 (sz w) = [i64 fr, i64 ln] := by rw [f1.mm hs (by simp), hm]
      have hs1 : sz w < sz w1 := f1.lt hs
      by_cases h3 : fr < D.firm.length
      · simp (maxDischargeDepth := 8) [↓sC, sB, sM, hm1, h1, h2, h3]
        refine (len_spec ((h.fr0 fW).fr0 f1)).call ?_
        rintro _ w2 ⟨rfl, f2⟩
        have hm2 : mm w2 (sz w) = [i64 fr, i64 ln] := by rw [f2.mm hs1 (by simp), hm1]
        have hsub : IntKind.i64.wrap ((D.firm.length : Int) - fr) = (D.firm.length : Int) - fr := wrap64 (by omega) (by omega)
        simp (maxDischargeDepth := 8) [↓sC, sB, sM, hm2, h1, h2, h3, hsub, fitsM]
        exact (fW.trans0 f1).trans0 f2
      · simp (maxDischargeDepth := 8) [↓sC, sB, sM, hm1, h1, h2, h3, fitsM]
        exact fW.trans0 f1
    · simp (maxDischargeDepth := 8) [↓sC, sB, sM, hm, h1, h2, fitsM]
      exact fW
  · simp (maxDischargeDepth := 8) [↓sC, sB, sM, hm, h1, fitsM]
    exact fW
/-- A Roll at block r. -/
def IsRoll (w : World) (r b : Nat) (fr ln at_ : Int) : Prop := mm w r = [pt b 0, i64 fr, i64 ln, i64 at_] ∧ fz w r = false
theorem IsRoll.lt {w : World} {r b : Nat} {fr ln at_ : Int} (h : IsRoll w r b fr ln at_) : r < sz w := lt_of_fz h.2
theorem IsRoll.fr {w w' : World} {r b : Nat} {fr ln at_ : Int} {S : List Nat} (h : IsRoll w r b fr ln at_) (hf : Fr S w w') (hS : r ∉ S) : IsRoll w' r b fr ln at_ :=
  ⟨by rw [hf.mm h.lt hS, h.1], by rw [hf.fz h.lt hS, h.2]⟩
theorem left_spec {w : World} {r b : Nat} {fr ln at_ : Int} (h : IsRoll w r b fr ln at_) (h0 : 0 ≤ at_) (h1 : at_ ≤ ln) (h2 : ln ≤ 4096) : Ret P 54 #[pt r 0] w fun v w' => v = i64 (ln - at_) ∧ Fr [] w w' := by
  refine F54ok ?_
  unfold F54
  have hw : IntKind.i64.wrap (ln - at_) = ln - at_ := wrap64 (by omega) (by omega)
  have hm := h.1
  simp (maxDischargeDepth := 8) [↓sC, sB, sM, hm, hw]
theorem rsyncR_spec {w : World} {r b : Nat} {D : DD} {F : List Nat} {fr ln at_ : Int} (h : IsRoll w r b fr ln at_) (hd : IsD w b D F) :
    Ret P 28 #[pt r 0] w fun v w' => v = i64 (if D.down then 14 else 0) ∧ IsD w' b (syncD D) F ∧ Fr F w w' := by
  refine F28ok ?_
  unfold F28
  have hm := h.1
  simp (maxDischargeDepth := 8) [↓sC, sB, sM, hm]
  refine (sync_spec hd).call ?_
  rintro _ w1 ⟨rfl, h1, h2⟩
  simp (maxDischargeDepth := 8) [↓sC, sB, sM]
  exact ⟨h1, h2⟩
end Go.Proofs.YtieejbkbdfccdaaGreat

set_option linter.unusedVariables false
set_option linter.unusedSimpArgs false
namespace Go.Proofs.YtieejbkbdfccdaaGreat
open Go
noncomputable def areaS (D : DD) (fr ln : Nat) : List (List UInt8) := (List.range ln).map fun i => readD D ((fr + i : Nat) : Int)
theorem areaS_drop {D : DD} {fr ln k : Nat} (h : k < ln) : (areaS D fr ln).drop k = readD D ((fr + k : Nat) : Int) :: (areaS D fr ln).drop (k + 1) := by
  have hl : k < (areaS D fr ln).length := by simp [areaS]; exact h
  rw [List.drop_eq_getElem_cons hl]
  simp [areaS]
theorem areaS_len (D : DD) (fr ln : Nat) : (areaS D fr ln).length = ln := by simp [areaS]
theorem areaS_end {D : DD} {fr ln k : Nat} (h : ln ≤ k) : (areaS D fr ln).drop k = [] := List.drop_eq_nil_of_le (by rw [areaS_len]; exact h)
/-- What 'one' answers. -/
def OneR (base : Nat) (r : Option (List UInt8 × Nat)) (x : Value) (w' : World) : Prop :=
  (r = none ∧ x = .tuple #[.slice none 0 0, i64 0, i64 0]) ∨ ∃ b n ov, r = some (b, n) ∧ x = .tuple #[ov, i64 n, i64 0] ∧ w'.ownsRow base 5 1 ov b.length (bs b)
def OneI (w : World) (b : Nat) (D : DD) (F : List Nat) (fr ln at_ : Nat) (m : Nat) (e : Env) (w' : World) : Prop :=
  ∃ (n first : Nat) (out : List UInt8) (ov : Value), m = ln - (at_ + n) ∧ Fr [] w w' ∧ first ≤ 255 ∧ out.length ≤ 64 * n ∧ at_ + n ≤ ln ∧ oneGo ((areaS D fr ln).drop (at_ + n)) n first out = oneM ((areaS D fr ln).drop at_) ∧
    w'.ownsRow (sz w) 5 1 ov out.length (bs out) ∧ mm w' (sz w) = [i64 fr, i64 ln] ∧ fz w' (sz w) = false ∧ (∀ k, ov.ownBlock = some k → k ≠ sz w) ∧
    e 0 = pt b 0 ∧ e 2 = i64 at_ ∧ e 4 = pt (sz w) 0 ∧ e 9 = ov ∧ e 10 = i64 first ∧ e 11 = i64 n
theorem one_step {w : World} {b : Nat} {D : DD} {F : List Nat} {fr ln at_ : Nat} (h : IsD w b D F) (hd : D.down = false) (hfit : fr + ln ≤ D.firm.length) {m : Nat} {e : Env} {w1 : World}
    (hI : OneI w b D F fr ln at_ m e w1) {K : KT} (hN : ∀ m' e' w', m' < m → OneI w b D F fr ln at_ m' e' w' → K .normal e' w')
    (hX : ∀ e' w', Fr [] w w' → oneM ((areaS D fr ln).drop at_) = none → K (.exit 0) e' w')
    (hR : ∀ e' w' x6 x7, Fr [] w w' → e' 6 = x6 → e' 7 = x7 → e' 8 = i64 0 → OneR (sz w) (oneM ((areaS D fr ln).drop at_)) (.tuple #[x6, x7, i64 0]) w' → K .ret e' w') : F53B0 e w1 K := by
  obtain ⟨n, first, out, ov, hm, hf, hfirst, hol, hle, hgo, hown, m4, f4, hob, e0, e2, e4, e9, e10, e11⟩ := hI
  subst hm
  unfold F53B0
  have hlen : D.firm.length ≤ 4096 := by obtain ⟨hw, _⟩ := id h; exact hw.len
  have hwD : WfD D := by obtain ⟨hw, _⟩ := id h; exact hw
  obtain ⟨q, hq⟩ : ∃ q : Nat, q = at_ + n := ⟨_, rfl⟩
  have h1 : IntKind.i64.wrap ((at_ : Int) + n) = (q : Int) := by rw [wrap64 (by omega) (by omega)]; omega
  have hsz := lt_of_fz f4
  by_cases hlt : q < ln
  · have hl1 : (q < ln) = True := eq_true hlt
    have hl2 : ((q : Int) < ln) = True := eq_true (by omega)
    rw [← hq, areaS_drop hlt, oneGo] at hgo
    have h2 : IntKind.i64.wrap ((fr : Int) + at_) = ((fr + at_ : Nat) : Int) := by rw [wrap64 (by omega) (by omega)]; omega
    have h3 : IntKind.i64.wrap (((fr + at_ : Nat) : Int) + n) = ((fr + q : Nat) : Int) := by rw [wrap64 (by omega) (by omega)]; omega
    try simp (maxDischargeDepth := 8) [↓sC, sB, sM, letK_def, e0, e2, e4, e11, m4, hsz, h1, hl1, hl2, h2, h3, -Int.natCast_add]
    have hok : okE D ((fr + q : Nat) : Int) = 0 := by
      unfold okE
      rw [hd, if_neg (by simp), if_neg (by omega)]
    refine (read_spec (x := ((fr + q : Nat) : Int)) (h.fr0 hf) (by omega) (by omega)).call ?_
    rintro _ w2 ⟨rfl, f2⟩
    rw [hok, if_pos rfl]
    have hs64 : (readD D ((fr + q : Nat) : Int)).length = 64 := readD_len hwD (by omega) (by omega)
    generalize readD D ((fr + q : Nat) : Int) = s at *
    have hst : pStore P 90 (pt (sz w2) 0) (sec s) (nw w2 (bs (zb 64)) 90) = some (wr (nw w2 (bs (zb 64)) 90) (sz w2) (bs s)) := by
      try simp (maxDischargeDepth := 8) [↓sC, sB, sM, hs64]
    obtain ⟨X, hX⟩ : ∃ X, X = wr (nw w2 (bs (zb 64)) 90) (sz w2) (bs s) := ⟨_, rfl⟩
    have fX : Fr [] w2 X := by rw [hX]; exact ((Fr.refl [] w2).nw _ _).wr (.inr (Nat.le_refl _)) _
    have hXm : mm X (sz w2) = bs s := by rw [hX, mm_wr_same]; simp [sM]
    have hld : pLoad P 90 (pt (sz w2) 0) X = some (sec s, X) := by
      rw [ld90 (by rw [hXm, bs_length]; omega), hXm, List.drop_zero, List.take_of_length_le (by rw [bs_length]; omega)]
    rw [← hX] at hst
    try simp (maxDischargeDepth := 8) [↓sC, sB, sM, hst, hld, -st90, -ld90]
    refine (open_spec hs64).call ?_
    rintro _ w3 ⟨f3, x, rfl, hx1, hx2⟩
    have g3 := ((hf.trans0 f2).trans0 fX).trans0 f3
    have f13 := (f2.trans0 fX).trans0 f3
    by_cases hwh : isWhole s
    · have hxr := hx1 hwh
      have hxp := pay_length hs64 hwh.2.2.1
      have hp61 := hwh.2.2.1
      rw [← hxp] at hp61
      obtain ⟨xa, xc, hxv⟩ := sl_of hxr
      have hlx : ∀ w, pBuiltin P .len #[72] 3 [x] w = some (i64 (pay s).length, w) := fun w => by rw [hxv]; exact len72
      by_cases hp1 : 1 ≤ (pay s).length
      · rw [if_pos ⟨hwh, hp1⟩] at hgo
        have p1 : (((pay s).length : Int) < 1) = False := eq_false (by omega)
        have p2 : ((pay s).length < 1) = False := eq_false (by omega)
        have p3 : ((pay s).length = 0) = False := eq_false (by omega)
        have p4 : (pay s = []) = False := eq_false (by intro h; rw [h] at hp1; simp at hp1)
        obtain ⟨ab, ao, ac, hxv2, q1, q2⟩ := rd_cell hxr (i := 0) hp1
        have hia : ∀ w', pIndexAddr P 72 x (Value.int .i64 0) w' = some (pt ab ao, w') := fun w' => by
          rw [hxv2]
          have := ia72 (w := w') (b := ab) (o := ao) (n := (pay s).length) (c := ac) (k := .i64) (j := 0) (by omega) (by omega)
          rw [this]; simp
        rw [Nat.add_zero] at q1 q2
        have hl5 : pLoad P 5 (pt ab ao) w3 = some (bv (gb (pay s) 0), w3) := by rw [ld5 q1, q2]
        have hlb := (gb (pay s) 0).toNat_lt
        have hcv : ∀ w, pConv P 5 3 (bv (gb (pay s) 0)) w = some (i64 (leftOf s), w) := fun w => by
          have hwx : IntKind.i64.wrap ((gb (pay s) 0).toNat : Int) = ((gb (pay s) 0).toNat : Int) := wrap64 (by omega) (by omega)
          unfold leftOf
          try simp (maxDischargeDepth := 8) [↓sC, sB, sM, bv, hwx]
        have hl255 : leftOf s ≤ 255 := by unfold leftOf; omega
        generalize hbyte : bv (gb (pay s) 0) = byte at *
        obtain ⟨lf, hlf⟩ : ∃ lf, lf = leftOf s := ⟨_, rfl⟩
        rw [← hlf] at hcv hl255 hgo
        obtain ⟨f', hf'⟩ : ∃ f', f' = firstOf n first s := ⟨_, rfl⟩
        rw [← hf'] at hgo
        have hf255 : f' ≤ 255 := by rw [hf']; unfold firstOf; split <;> omega
        have hf2' : f' = if n = 0 then lf else first := by rw [hf', hlf]; rfl
        have hbp : badP n f' s ↔ ((lf : Int) ≠ (f' : Int) - n ∨ 63 < lf ∨ (0 < lf ∧ (pay s).length ≠ 61) ∨ (0 < n ∧ lf = 0 ∧ (pay s).length = 1)) := by unfold badP; rw [← hlf]
        have m3 : mm w3 (sz w) = [i64 fr, i64 ln] := by rw [f13.mm hsz (by simp), m4]
        have z3 : fz w3 (sz w) = false := by rw [f13.fz hsz (by simp), f4]
        have hown3 := own_fr hown f13 (by simp)
        try simp (maxDischargeDepth := 8) [↓sC, sB, sM, hwh, hlx, p1, p2, p3, p4, hia, hl5, hcv, e11]
        refine condE_join (M := fun e' w' => w3 = w' ∧ e' 0 = pt b 0 ∧ e' 2 = i64 at_ ∧ e' 4 = pt (sz w) 0 ∧ e' 9 = ov ∧ e' 10 = i64 f' ∧ e' 11 = i64 n ∧ e' 14 = x ∧ e' 16 = i64 lf) ?_ ?_ ?_
        · intro hn K' hK'
          have hn0 : n = 0 := by simpa using hn
          rw [hn0, if_pos rfl] at hf2'
          exact hK' _ _ ⟨rfl, by simp [put_get, e0], by simp [put_get, e2], by simp [put_get, e4], by simp [put_get, e9], by simp [put_get, hf2'], by simp [put_get, e11], by simp [put_get], by simp [put_get]⟩
        · intro hn K' hK'
          have hn0 : ¬ n = 0 := by simpa using hn
          rw [if_neg hn0] at hf2'
          exact hK' _ _ ⟨rfl, by simp [put_get, e0], by simp [put_get, e2], by simp [put_get, e4], by simp [put_get, e9], by simp [put_get, hf2', e10], by simp [put_get, e11], by simp [put_get], by simp [put_get]⟩
        · clear e0 e2 e4 e9 e10 e11
          rintro e' _ ⟨rfl, e0, e2, e4, e9, e10, e11, e14, e16⟩
          obtain ⟨d, hd2⟩ : ∃ d : Int, d = (f' : Int) - n := ⟨_, rfl⟩
          rw [← hd2] at hbp
          have hsub : IntKind.i64.wrap ((f' : Int) - n) = d := by rw [hd2]; exact wrap64 (by omega) (by omega)
          have hw1 : IntKind.i64.wrap ((n : Int) + 1) = ((n + 1 : Nat) : Int) := wrap64 (by omega) (by omega)
          have bad : badP n f' s → ∀ e'' w'', Fr [] w w'' → e'' 6 = .slice none 0 0 → e'' 7 = i64 0 → e'' 8 = i64 0 → K .ret e'' w'' := fun hb e'' w'' hfr a6 a7 a8 => by
            rw [if_pos hb] at hgo
            exact hR e'' w'' _ _ hfr a6 a7 a8 (.inl ⟨hgo.symm, rfl⟩)
          by_cases c1 : (lf : Int) = d
          · have c1a : ((lf : Int) = d) = True := eq_true c1
            by_cases c2 : 63 < lf
            · have c2a : (63 < lf) = True := eq_true c2
              have c2b : ((63 : Int) < lf) = True := eq_true (by omega)
              try simp (maxDischargeDepth := 8) [↓sC, sB, sM, e10, e11, e16, hsub, c1a, c2a, c2b]
              exact bad (hbp.2 (.inr (.inl c2))) _ _ g3 (by simp [put_get]) (by simp [put_get]) (by simp [put_get])
            · have c2a : (63 < lf) = False := eq_false c2
              have c2b : ((63 : Int) < lf) = False := eq_false (by omega)
              obtain ⟨S, hS, hSr, _⟩ := sl_from (t := 72) (lo := 1) sliceE72 hxr hp1
              have hS : ∀ w', pSlice P 72 x (some (Value.int .i64 1)) none none w' = some (S, w') := hS
              have hdl : ((pay s).drop 1).length ≤ 60 := by rw [List.length_drop]; omega
              obtain ⟨v', w4, hrun, hown4, hg4, hv4⟩ := append_own2 (P := P) (t := 72) (ty := 72) (sz w) sliceE72 hasZero5 cellsOf5 (by rw [zeroL5]; rfl) (by omega) hown3 (by have := g3.size; omega) hSr (by simp) bs_one
                (by unfold maxLen; omega) (by rw [bytesOf5]; omega)
              have f4' := Fr.of_grown hg4
              have g4 : Fr [] w w4 := g3.trans f4' (fun k hk => .inr (own_lt hown3 k (by simpa using hk)).1)
              have hnb : sz w ∉ ov.ownBlock.toList := fun hk => hob _ (by simpa using hk) rfl
              have hs3 := lt_of_fz z3
              have m5 : mm w4 (sz w) = [i64 fr, i64 ln] := by rw [f4'.mm hs3 hnb, m3]
              have z5 : fz w4 (sz w) = false := by rw [f4'.fz hs3 hnb, z3]
              have hob' : ∀ k, v'.ownBlock = some k → k ≠ sz w := fun k hk => by
                rcases hv4 with h | h
                · exact hob k (by rw [← h]; exact hk)
                · have : k = sz w3 := by rw [h] at hk; simpa using hk.symm
                  omega
              rw [← bs_append, ← List.length_append] at hown4
              have ret : lf = 0 → ¬ badP n f' s → ∀ e'', e'' 6 = v' → e'' 7 = i64 ((n + 1 : Nat) : Int) → e'' 8 = i64 0 → K .ret e'' w4 := fun hl0 hb e'' a6 a7 a8 => by
                rw [if_neg hb, if_pos hl0] at hgo
                exact hR e'' w4 _ _ g4 a6 a7 a8 (.inr ⟨_, _, v', hgo.symm, rfl, hown4⟩)
              have nxt : ¬ lf = 0 → ¬ badP n f' s → ∀ e'', e'' 0 = pt b 0 → e'' 2 = i64 at_ → e'' 4 = pt (sz w) 0 → e'' 9 = v' → e'' 10 = i64 f' → e'' 11 = i64 ((n + 1 : Nat) : Int) → K .normal e'' w4 := fun hl0 hb e'' a0 a2 a4 a9 a10 a11 => by
                rw [if_neg hb, if_neg hl0] at hgo
                have hq1 : q + 1 = at_ + (n + 1) := by omega
                rw [hq1] at hgo
                exact hN (ln - (at_ + (n + 1))) e'' w4 (by omega) ⟨n + 1, f', _, v', rfl, g4, hf255, by rw [List.length_append]; omega, by omega, hgo, hown4, m5, z5, hob', a0, a2, a4, a9, a10, a11⟩
              by_cases c3 : 0 < lf
              · have c3a : (0 < lf) = True := eq_true c3
                have c3b : ((0 : Int) < lf) = True := eq_true (by omega)
                have c3c : ((lf : Int) = 0) = False := eq_false (by omega)
                have c3d : (lf = 0) = False := eq_false (by omega)
                by_cases c4 : (pay s).length = 61
                · have c4a : (((pay s).length : Int) = 61) = True := eq_true (by omega)
                  have c4b : ((pay s).length = 61) = True := eq_true c4
                  have hb : ¬ badP n f' s := by rw [hbp]; omega
                  by_cases c5 : 0 < n
                  · have c5a : (0 < n) = True := eq_true c5
                    have c5b : ((0 : Int) < n) = True := eq_true (by omega)
                    try simp (maxDischargeDepth := 8) [↓sC, sB, sM, e9, e10, e11, e14, e16, hsub, c1a, c2a, c2b, c3a, c3b, c3c, c3d, hlx, c4a, c4b, c5a, c5b, hS, hrun, hw1, -Int.natCast_add]
                    exact nxt (by omega) hb _ (by simp [put_get, e0]) (by simp [put_get, e2]) (by simp [put_get, e4]) (by simp [put_get]) (by simp [put_get, e10]) (by simp [put_get])
                  · have c5a : (0 < n) = False := eq_false c5
                    have c5b : ((0 : Int) < n) = False := eq_false (by omega)
                    try simp (maxDischargeDepth := 8) [↓sC, sB, sM, e9, e10, e11, e14, e16, hsub, c1a, c2a, c2b, c3a, c3b, c3c, c3d, hlx, c4a, c4b, c5a, c5b, hS, hrun, hw1, -Int.natCast_add]
                    exact nxt (by omega) hb _ (by simp [put_get, e0]) (by simp [put_get, e2]) (by simp [put_get, e4]) (by simp [put_get]) (by simp [put_get, e10]) (by simp [put_get])
                · have c4a : (((pay s).length : Int) = 61) = False := eq_false (by omega)
                  have c4b : ((pay s).length = 61) = False := eq_false c4
                  try simp (maxDischargeDepth := 8) [↓sC, sB, sM, e10, e11, e14, e16, hsub, c1a, c2a, c2b, c3a, c3b, hlx, c4a, c4b]
                  exact bad (hbp.2 (.inr (.inr (.inl ⟨c3, c4⟩)))) _ _ g3 (by simp [put_get]) (by simp [put_get]) (by simp [put_get])
              · have c3a : (0 < lf) = False := eq_false c3
                have c3b : ((0 : Int) < lf) = False := eq_false (by omega)
                have c3c : ((lf : Int) = 0) = True := eq_true (by omega)
                have c3d : (lf = 0) = True := eq_true (by omega)
                by_cases c5 : 0 < n
                · have c5a : (0 < n) = True := eq_true c5
                  have c5b : ((0 : Int) < n) = True := eq_true (by omega)
                  by_cases c7 : (pay s).length = 1
                  · have c7a : (((pay s).length : Int) = 1) = True := eq_true (by omega)
                    have c7b : ((pay s).length = 1) = True := eq_true c7
                    try simp (maxDischargeDepth := 8) [↓sC, sB, sM, e10, e11, e14, e16, hsub, c1a, c2a, c2b, c3a, c3b, c3c, c3d, hlx, c5a, c5b, c7a, c7b]
                    exact bad (hbp.2 (.inr (.inr (.inr ⟨c5, by omega, c7⟩)))) _ _ g3 (by simp [put_get]) (by simp [put_get]) (by simp [put_get])
                  · have c7a : (((pay s).length : Int) = 1) = False := eq_false (by omega)
                    have c7b : ((pay s).length = 1) = False := eq_false c7
                    try simp (maxDischargeDepth := 8) [↓sC, sB, sM, e9, e10, e11, e14, e16, hsub, c1a, c2a, c2b, c3a, c3b, c3c, c3d, hlx, c5a, c5b, c7a, c7b, hS, hrun, hw1, -Int.natCast_add]
                    exact ret (by omega) (by rw [hbp]; omega) _ (by simp [put_get]) (by simp [put_get]) (by simp [put_get])
                · have c5a : (0 < n) = False := eq_false c5
                  have c5b : ((0 : Int) < n) = False := eq_false (by omega)
                  try simp (maxDischargeDepth := 8) [↓sC, sB, sM, e9, e10, e11, e14, e16, hsub, c1a, c2a, c2b, c3a, c3b, c3c, c3d, hlx, c5a, c5b, hS, hrun, hw1, -Int.natCast_add]
                  exact ret (by omega) (by rw [hbp]; omega) _ (by simp [put_get]) (by simp [put_get]) (by simp [put_get])
          · have c1a : ((lf : Int) = d) = False := eq_false c1
            try simp (maxDischargeDepth := 8) [↓sC, sB, sM, e10, e11, e16, hsub, c1a]
            exact bad (hbp.2 (.inl c1)) _ _ g3 (by simp [put_get]) (by simp [put_get]) (by simp [put_get])
      · rw [if_neg (fun hh => hp1 hh.2)] at hgo
        have p1 : (((pay s).length : Int) < 1) = True := eq_true (by omega)
        have p2 : ((pay s).length < 1) = True := eq_true (by omega)
        try simp (maxDischargeDepth := 8) [↓sC, sB, sM, hwh, hlx, p1, p2]
        exact hR _ _ (.slice none 0 0) (i64 0) g3 (by simp [put_get]) (by simp [put_get]) (by simp [put_get]) (.inl ⟨hgo.symm, rfl⟩)
    · rw [if_neg (fun hh => hwh hh.1)] at hgo
      have hx := hx2 hwh
      subst hx
      try simp (maxDischargeDepth := 8) [↓sC, sB, sM, hwh]
      exact hR _ _ (.slice none 0 0) (i64 0) g3 (by simp [put_get]) (by simp [put_get]) (by simp [put_get]) (.inl ⟨hgo.symm, rfl⟩)
  · have hl1 : (q < ln) = False := eq_false hlt
    have hl2 : ((q : Int) < ln) = False := eq_false (by omega)
    rw [← hq, areaS_end (by omega), oneGo] at hgo
    try simp (maxDischargeDepth := 8) [↓sC, sB, sM, letK_def, e0, e2, e4, e11, m4, hsz, h1, hl1, hl2]
    exact hX _ _ hf hgo.symm
theorem one_spec {w : World} {b : Nat} {D : DD} {F : List Nat} {fr ln at_ : Nat} (h : IsD w b D F) (hd : D.down = false) (hfit : fr + ln ≤ D.firm.length) (hat : at_ ≤ ln) :
    Ret P 53 #[pt b 0, ar fr ln, i64 at_] w fun x w' => OneR (sz w) (oneM ((areaS D fr ln).drop at_)) x w' ∧ Fr [] w w' := by
  refine F53ok ?_
  unfold F53 ar
  try simp (maxDischargeDepth := 8) [↓sC, sB, sM]
  refine loopE_of (OneI w b D F fr ln at_) (ln - at_) ⟨0, 0, [], .slice none 0 0, rfl, (Fr.refl [] w).nw _ _, by omega, by simp, hat, rfl, World.ownsRow_nil _ _ _ _, by simp [sM], by simp [sM], by simp [Value.ownBlock], by simp [put_get, argE_get], by simp [put_get, argE_get], by simp [put_get], by simp [put_get], by simp [put_get], by simp [put_get]⟩ ?_
  intro m e w1 hI
  refine one_step h hd hfit hI (fun m' e' w' hlt hI' => ⟨m', hlt, hI'⟩) (fun e' w' hfr hno => ?_) (fun e' w' x6 x7 hfr a6 a7 a8 hR => ?_)
  · try simp (maxDischargeDepth := 8) [↓sC, sB, sM]
    exact ⟨.inl ⟨hno, rfl⟩, hfr⟩
  · try simp (maxDischargeDepth := 8) [↓sC, sB, sM, a6, a7, a8]
    exact ⟨hR, hfr⟩
end Go.Proofs.YtieejbkbdfccdaaGreat

set_option linter.unusedVariables false
set_option linter.unusedSimpArgs false
namespace Go.Proofs.YtieejbkbdfccdaaGreat
open Go
/-- A row of entries that was made behind 'base'. -/
structure EntR (base : Nat) (w : World) (x : Value) (Lp : List (List UInt8 × Value)) : Prop where
  own : w.ownsRow base 72 1 x Lp.length (Lp.map (·.2))
  el : ∀ p ∈ Lp, RdV w p.2 p.1.length (bs p.1)
  lt : ∀ p ∈ Lp, ∀ k, p.2.ownBlock = some k → base ≤ k ∧ k < sz w ∧ x.ownBlock ≠ some k
theorem EntR.fr {base : Nat} {w w' : World} {x : Value} {Lp : List (List UInt8 × Value)} {S : List Nat} (h : EntR base w x Lp) (hf : Fr S w w') (hS : ∀ k ∈ S, k < base) : EntR base w' x Lp := by
  refine ⟨own_fr h.own hf (fun k hk hk2 => ?_), fun p hp => (h.el p hp).fr hf (fun k hk hk2 => ?_), fun p hp k hk => ?_⟩
  · have := (own_lt h.own k hk).1; have := hS k hk2; omega
  · have := (h.lt p hp k hk).1; have := hS k hk2; omega
  · obtain ⟨h1, h2, h3⟩ := h.lt p hp k hk
    exact ⟨h1, hf.lt h2, h3⟩
theorem EntR.nil (base : Nat) (w : World) : EntR base w (.slice none 0 0) [] := ⟨World.ownsRow_nil _ _ _ _, by simp, by simp⟩
theorem b67 {a : Option Addr} {n c : Nat} {w : World} : pBuildSlice P 78 1 [(0, .slice a n c)] w = some (sl (sz w) 0 1 1, nw w [.slice a n c] 72) := by
  rw [bsl78 (by omega) (by simp [Value.cells])]
  simp [splice, Value.cells]
/-- An entry more. -/
theorem EntR.snoc {base : Nat} {w : World} {x v : Value} {b : List UInt8} {Lp : List (List UInt8 × Value)} (h : EntR base w x Lp) (hb : base ≤ sz w) (hn : Lp.length ≤ 1000000) (hv : v.oneCell' = true) (hr : RdV w v b.length (bs b))
    (hk : ∀ k, v.ownBlock = some k → base ≤ k ∧ k < sz w ∧ x.ownBlock ≠ some k) :
    ∃ x' w', pBuiltin P .append #[78, 78] 78 [x, sl (sz w) 0 1 1] (nw w [v] 72) = some (x', w') ∧ EntR base w' x' (Lp ++ [(b, v)]) ∧ Fr x.ownBlock.toList w w' ∧ ∀ k, x'.ownBlock = some k → x.ownBlock = some k ∨ sz w ≤ k := by
  have f0 : Fr [] w (nw w [v] 72) := (Fr.refl [] w).nw _ _
  have hrd : RdV (nw w [v] 72) (sl (sz w) 0 1 1) 1 [v] := by
    have := rd_new w [v] 72 (n := 1) (by unfold maxLen; omega)
    exact this
  obtain ⟨x', w', hrun, hown, hg, hx'⟩ := append_own2 (P := P) (t := 78) (ty := 78) base sliceE78 hasZero72 cellsOf72 (by rw [zeroL72]; rfl) (by omega) (own_fr h.own f0 (by simp)) (by have := f0.size; omega) hrd (by simp) (by simpa using hv)
    (by unfold maxLen; omega) (by rw [bytesOf72]; omega)
  have fg := Fr.of_grown hg
  have hnn : ∀ k, x'.ownBlock = some k → x.ownBlock = some k ∨ sz w < k := fun k hk => by
    rcases hx' with h2 | h2
    · exact .inl (by rw [← h2]; exact hk)
    · have : k = sz (nw w [v] 72) := by rw [h2] at hk; simpa using hk.symm
      rw [sz_nw] at this
      exact .inr (by omega)
  refine ⟨x', w', hrun, ⟨?_, ?_, ?_⟩, (f0.mono (by simp)).trans fg (fun k hk => .inl hk), fun k hk => (hnn k hk).imp id Nat.le_of_lt⟩
  · rw [List.length_append, List.map_append]
    exact hown
  · intro p hp
    rcases List.mem_append.1 hp with hp | hp
    · exact ((h.el p hp).fr0 f0).fr fg (fun k hk hk2 => (h.lt p hp k hk).2.2 (by simpa using hk2))
    · rw [List.mem_singleton] at hp
      subst hp
      exact (hr.fr0 f0).fr fg (fun k hk2 hk3 => (hk k hk2).2.2 (by simpa using hk3))
  · intro p hp k hk2
    have hh : base ≤ k ∧ k < sz w ∧ x.ownBlock ≠ some k := by
      rcases List.mem_append.1 hp with hp | hp
      · exact h.lt p hp k hk2
      · rw [List.mem_singleton] at hp
        subst hp
        exact hk k hk2
    obtain ⟨h1, h2, h3⟩ := hh
    refine ⟨h1, fg.lt (f0.lt h2), fun he => ?_⟩
    rcases hnn k he with h4 | h4
    · exact h3 h4
    · omega
/-- What 'Scan' answers on an area. -/
def ScanR (base : Nat) (S : List (List UInt8)) (x : Value) (w' : World) : Prop :=
  ∃ ov Lp, x = .tuple #[ov, i64 ((scanM S).2 : Int), i64 0] ∧ EntR base w' ov Lp ∧ Lp.map (·.1) = (scanM S).1
def ScI (w : World) (b : Nat) (D : DD) (F : List Nat) (fr ln : Nat) (m : Nat) (e : Env) (w' : World) : Prop :=
  ∃ (at_ : Nat) (Lp : List (List UInt8 × Value)) (ov : Value), at_ ≤ ln ∧ ((areaS D fr ln).drop at_).length ≤ m ∧ Lp.length ≤ at_ ∧ Fr [] w w' ∧
    scanM (areaS D fr ln) = (Lp.map (·.1) ++ (scanGo m ((areaS D fr ln).drop at_) at_).1, (scanGo m ((areaS D fr ln).drop at_) at_).2) ∧
    EntR (sz w) w' ov Lp ∧ mm w' (sz w) = [i64 fr, i64 ln] ∧ fz w' (sz w) = false ∧ (∀ k, ov.ownBlock = some k → k ≠ sz w) ∧
    e 0 = pt b 0 ∧ e 3 = pt (sz w) 0 ∧ e 7 = ov ∧ e 8 = i64 at_
theorem scan_spec {w : World} {b : Nat} {D : DD} {F : List Nat} {fr ln : Int} (h : IsD w b D F) :
    Ret P 24 #[pt b 0, ar fr ln] w fun x w' => Fr [] w w' ∧ (D.down = true → x = .tuple #[.slice none 0 0, i64 0, i64 14]) ∧ (D.down = false → ¬ fitsM D.firm.length fr ln → x = .tuple #[.slice none 0 0, i64 0, i64 1]) ∧
      (D.down = false → fitsM D.firm.length fr ln → ScanR (sz w) (areaS D fr.toNat ln.toNat) x w') := by
  refine F24ok ?_
  unfold F24 ar
  have hlen : D.firm.length ≤ 4096 := by obtain ⟨hw, _⟩ := id h; exact hw.len
  obtain ⟨W, hW⟩ : ∃ W, W = nw w [i64 fr, i64 ln] 42 := ⟨_, rfl⟩
  have fW : Fr [] w W := by rw [hW]; exact (Fr.refl [] w).nw _ _
  have hm : mm W (sz w) = [i64 fr, i64 ln] := by rw [hW]; simp [sM]
  have hz : fz W (sz w) = false := by rw [hW]; simp [sM]
  have hs : sz w < sz W := by rw [hW]; simp [sM]
  try simp (maxDischargeDepth := 8) [↓sC, sB, sM, ← hW]
  refine (down_spec (h.fr0 fW)).call ?_
  rintro _ w1 ⟨rfl, f1⟩
  cases hd : D.down with
  | true =>
    try simp (maxDischargeDepth := 8) [↓sC, sB, sM]
    exact fW.trans0 f1
  | false =>
    have hm1 : mm w1 (sz w) = [i64 fr, i64 ln] := by rw [f1.mm hs (by simp), hm]
    have hz1 : fz w1 (sz w) = false := by rw [f1.fz hs (by simp), hz]
    have hs1 := lt_of_fz hz1
    try simp (maxDischargeDepth := 8) [↓sC, sB, sM, hm1, hs1]
    refine (fits_spec (fr := fr) (ln := ln) ((h.fr0 fW).fr0 f1)).call ?_
    rintro _ w2 ⟨rfl, f2⟩
    have g2 := (fW.trans0 f1).trans0 f2
    by_cases hfit : fitsM D.firm.length fr ln
    · obtain ⟨h1, h2, h3, h4⟩ := id hfit
      obtain ⟨fr, rfl⟩ : ∃ k : Nat, fr = k := ⟨fr.toNat, by omega⟩
      obtain ⟨ln, rfl⟩ : ∃ k : Nat, ln = k := ⟨ln.toNat, by omega⟩
      have hft : (fitsM D.firm.length (fr : Int) (ln : Int)) = True := eq_true hfit
      simp only [Int.toNat_natCast]
      try simp (maxDischargeDepth := 8) [↓sC, sB, sM, hft]
      refine loopE_of (ScI w b D F fr ln) ln ⟨0, [], .slice none 0 0, by omega, by rw [List.drop_zero, areaS_len]; exact Nat.le_refl _, by simp, g2, ?_, EntR.nil _ _, ?_, ?_, by simp [Value.ownBlock], by simp [put_get, argE_get], by simp [put_get], by simp [put_get], by simp [put_get]⟩ ?_
      · unfold scanM; rw [areaS_len]; simp
      · rw [f2.mm hs1 (by simp), hm1]
      · rw [f2.fz hs1 (by simp), hz1]
      rintro m e w3 ⟨at_, Lp, ov, hat, hdl, hLa, hf, hsc, hE, m4, z4, hob, e0, e3, e7, e8⟩
      unfold F24B0
      have hs4 := lt_of_fz z4
      try simp (maxDischargeDepth := 8) [↓sC, sB, sM, letK_def, e0, e3, e8, m4, hs4]
      have hone := one_spec (w := w3) (fr := fr) (ln := ln) (at_ := at_) (h.fr0 hf) hd (by omega) hat
      refine hone.call ?_
      rintro _ w4 ⟨hR, f4⟩
      rcases hR with ⟨hno, rfl⟩ | ⟨bb, n, bv', hso, rfl, hbo⟩
      · rw [scanGo_none hno, List.append_nil] at hsc
        try simp (maxDischargeDepth := 8) [↓sC, sB, sM, e7, e8]
        refine ⟨hf.trans0 f4, ov, Lp, ?_, hE.fr f4 (by simp), ?_⟩
        · rw [hsc]
        · rw [hsc]
      · obtain ⟨n0, n1⟩ := oneGo_pos _ 0 0 [] _ _ hso
        rw [Nat.zero_add] at n1
        have hdl2 : ((areaS D fr ln).drop at_).length = ln - at_ := by rw [List.length_drop, areaS_len]
        obtain ⟨m', rfl, hm'1, hm'2⟩ := scanGo_some (at_ := at_) hso hdl
        rw [hm'2] at hsc
        rw [List.drop_drop] at hsc hm'1
        have hE4 := hE.fr f4 (by simp)
        obtain ⟨ba, bc, hbv⟩ := own_val hbo
        have hn4 : sz w3 ≤ sz w4 := f4.size
        have hge : sz w ≤ sz w3 := hf.size
        obtain ⟨x', w5, hrun, hE5, f5, hx5⟩ := hE4.snoc (v := bv') (b := bb) (by omega) (by omega) (by rw [hbv]; rfl) (own_rd hbo) (fun k hk => by
          obtain ⟨k1, k2⟩ := own_lt hbo k hk
          refine ⟨by omega, k2, fun hxk => ?_⟩
          have := (own_lt hE.own k hxk).2
          omega)
        have hbo1 : bv'.oneCell' = true := by rw [hbv]; rfl
        have hb6 : ∀ w, pBuildSlice P 78 1 [(0, bv')] w = some (sl (sz w) 0 1 1, nw w [bv'] 72) := fun w => by rw [hbv]; exact b67
        have hn0 : ((n : Int) = 0) = False := eq_false (by omega)
        have hn0' : (n = 0) = False := eq_false (by omega)
        have hwa : IntKind.i64.wrap ((at_ : Int) + n) = ((at_ + n : Nat) : Int) := wrap64 (by omega) (by omega)
        try simp (maxDischargeDepth := 8) [↓sC, sB, sM, e7, e8, hn0, hn0', hb6, hrun, hwa, -bsl78, -Int.natCast_add]
        have hns : sz w ∉ ov.ownBlock.toList := fun hk => hob _ (by simpa using hk) rfl
        have hs5 := f4.lt hs4
        refine ⟨m', by omega, at_ + n, Lp ++ [(bb, bv')], x', by omega, hm'1, by simp; omega, (hf.trans0 f4).trans f5 (fun k hk => .inr ?_), ?_, hE5, ?_, ?_, ?_, by simp [put_get, e0], by simp [put_get, e3], by simp [put_get], by simp [put_get]⟩
        · exact (own_lt hE.own k (by simpa using hk)).1
        · rw [hsc]; simp
        · rw [f5.mm hs5 hns, f4.mm hs4 (by simp), m4]
        · rw [f5.fz hs5 hns, f4.fz hs4 (by simp), z4]
        · intro k hk
          rcases hx5 k hk with h5 | h5
          · exact hob k h5
          · omega
    · have hft : (fitsM D.firm.length fr ln) = False := eq_false hfit
      try simp (maxDischargeDepth := 8) [↓sC, sB, sM, hft]
      exact g2
end Go.Proofs.YtieejbkbdfccdaaGreat
