/- Leaf: what Save does to a disk that may go down: the plain law. -/
import Derived.Test.YtieejbkbdfccdaaGreatKU
import Derived.Test.YtieejbkbdfccdaaGreatKT
import Derived.Test.YtieejbkbdfccdaaGreatSim
import Derived.Test.YtieejbkbdfccdaaGreatLA
set_option linter.unusedVariables false
set_option linter.unusedSimpArgs false
namespace Go.Proofs.YtieejbkbdfccdaaGreat
open Go
theorem UpN.writes {N : Nat} {D : DD} (h : UpN N D) {x : Nat} (hx : x < N) (s : List UInt8) : (writeD D (x : Int) s).writes = D.writes + 1 ∧ (writeD D (x : Int) s).firm = D.firm ∧ (writeD D (x : Int) s).pend = D.pend ++ [((x : Int), s)] := by
  unfold writeD; rw [if_pos (h.ok hx)]; exact ⟨rfl, rfl, rfl⟩
/-- What is the same of a disk, however an append ends. -/
structure SvB (D0 D : DD) (fr ln : Nat) : Prop where
  firm : D.firm = D0.firm
  pend : ∀ p ∈ D.pend, (fr : Int) ≤ p.1 ∧ p.1 < (fr + ln : Nat)
theorem app_up {N x fr ln : Nat} {B : List UInt8} {D0 : DD} (hx1 : fr ≤ x) : ∀ (k i : Nat) (D : DD), UpN N D → x + i + k ≤ N → x + i + k ≤ fr + ln → SvB D0 D fr ln →
    SvB D0 (appGo x B k i D).1 fr ln ∧ (appGo x B k i D).1.pend.length ≤ D.pend.length + k ∧ (appGo x B k i D).1.writes ≤ D.writes + k ∧ (D.left = 0 → (appGo x B k i D).2 = 0 ∧ (appGo x B k i D).1.left = 0) ∧
      ((appGo x B k i D).2 = 0 → UpN N (appGo x B k i D).1 ∧ ∀ j, view (appGo x B k i D).1 j = if x + i ≤ j ∧ j < x + i + k then sealOf (partS B (need B.length) (j - x)) else view D j) := by
  intro k
  induction k with
  | zero =>
    intro i D hu _ _ hs
    refine ⟨hs, by simp [appGo], by simp [appGo], fun h => ⟨rfl, h⟩, fun _ => ⟨hu, fun j => ?_⟩⟩
    rw [if_neg (by omega)]; rfl
  | succ k ih =>
    intro i D hu hx hx2 hs
    obtain ⟨y1, y2, y3⟩ := hu.writes (x := x + i) (by omega) (sealOf (partS B (need B.length) i))
    have hs1 : SvB D0 (writeD D ((x + i : Nat) : Int) (sealOf (partS B (need B.length) i))) fr ln := ⟨by rw [y2, hs.firm], fun p hp => by
      rw [y3] at hp
      rcases List.mem_append.1 hp with hp | hp
      · exact hs.pend p hp
      · rw [List.mem_singleton] at hp; subst hp
        refine ⟨?_, ?_⟩
        · show (fr : Int) ≤ ((x + i : Nat) : Int); omega
        · show ((x + i : Nat) : Int) < ((fr + ln : Nat) : Int); omega⟩
    have hpl : (writeD D ((x + i : Nat) : Int) (sealOf (partS B (need B.length) i))).pend.length = D.pend.length + 1 := by rw [y3]; simp
    rw [appGo]
    by_cases hl : D.left = 1
    · have hE : writeE D ((x + i : Nat) : Int) = 14 := by unfold writeE; rw [if_pos (hu.ok (by omega)), if_pos hl]
      rw [if_neg (by rw [hE]; omega)]
      refine ⟨hs1, by show (writeD _ _ _).pend.length ≤ _; omega, by show (writeD _ _ _).writes ≤ _; omega, fun h => by omega, fun h => ?_⟩
      rw [hE] at h; simp at h
    · obtain ⟨u1, u2, u3⟩ := hu.write (x := x + i) (by omega) hl (sealOf (partS B (need B.length) i))
      rw [if_pos u2]
      obtain ⟨h1, h2, h3, h4, h5⟩ := ih (i + 1) _ u1 (by omega) (by omega) hs1
      refine ⟨h1, by omega, by omega, fun h => h4 (by rw [u3, h]; rfl), fun h => ?_⟩
      obtain ⟨v1, v2⟩ := h5 h
      refine ⟨v1, fun j => ?_⟩
      rw [v2, up_view hu (by omega)]
      by_cases hj : j = x + i
      · subst hj
        rw [if_neg (by omega), if_pos rfl, if_pos (by omega)]
        congr 2
        omega
      · by_cases hr : x + i ≤ j ∧ j < x + i + (k + 1)
        · rw [if_pos hr, if_pos (by omega)]
        · rw [if_neg hr, if_neg (by omega), if_neg hj]
/-- A disk upon which some entries were laid, not yet for good. -/
structure SvP (N : Nat) (D0 D : DD) (fr ln : Nat) (es : List (List UInt8)) : Prop where
  bad : SvB D0 D fr ln
  up : UpN N D
  laid : Laid D fr ln es (ln - total es)
  off : ∀ j, ¬ (fr ≤ j ∧ j < fr + ln) → view D j = view D0 j
  plen : D.pend.length ≤ total es
  wr : D.writes ≤ D0.writes + total es
  calm : D0.left = 0 → D.left = 0
theorem total_nil : total [] = 0 := rfl
theorem SvP.start {N : Nat} {D0 : DD} {fr ln : Nat} (hu : UpN N D0) (hp : D0.pend = []) (hv : ∀ i, i < ln → view D0 (fr + i) = zb 64) : SvP N D0 D0 fr ln [] :=
  ⟨⟨rfl, by rw [hp]; simp⟩, hu, by rw [total_nil]; exact Laid.new hv, fun _ _ => rfl, by rw [hp]; exact Nat.zero_le _, by rw [total_nil]; omega, id⟩
theorem SvP.app {N : Nat} {D0 D : DD} {fr ln : Nat} {es : List (List UInt8)} {e : List UInt8} (h : SvP N D0 D fr ln es) (hfit : fr + ln ≤ N) (he : e.length ≤ 3840) (hn : total es + need e.length ≤ ln) :
    SvB D0 (appM fr ln (total es) e D).1 fr ln ∧ ((appM fr ln (total es) e D).2.1 = 0 → SvP N D0 (appM fr ln (total es) e D).1 fr ln (es ++ [e]) ∧ (appM fr ln (total es) e D).2.2 = total (es ++ [e])) ∧
      (D0.left = 0 → (appM fr ln (total es) e D).2.1 = 0) := by
  have hnp := need_pos e.length
  have hM : appM fr ln (total es) e D = ((appGo (fr + total es) e (need e.length) 0 D).1, (appGo (fr + total es) e (need e.length) 0 D).2, if (appGo (fr + total es) e (need e.length) 0 D).2 = 0 then total es + need e.length else total es) := by
    unfold appM
    rw [if_neg (by simp [h.up.down]), if_neg (by omega), if_neg (by omega)]
  obtain ⟨h1, h2, h3, h4, h5⟩ := app_up (x := fr + total es) (fr := fr) (ln := ln) (B := e) (D0 := D0) (by omega) (need e.length) 0 D h.up (by omega) (by omega) h.bad
  rw [hM]
  refine ⟨h1, fun h0 => ?_, fun h0 => (h4 (h.calm h0)).1⟩
  simp only at h0
  obtain ⟨u1, u2⟩ := h5 h0
  have hls := h.laid.app (D' := (appGo (fr + total es) e (need e.length) 0 D).1) (e := e) (by omega) (fun j => by rw [u2]; simp)
  have hpl := h.plen
  have hwr := h.wr
  refine ⟨⟨h1, u1, ?_, fun j hj => ?_, by rw [total_snoc]; show (appGo _ _ _ _ _).1.pend.length ≤ _; omega, by rw [total_snoc]; show (appGo _ _ _ _ _).1.writes ≤ _; omega, fun hl => (h4 (h.calm hl)).2⟩, ?_⟩
  · rw [total_snoc, ← Nat.sub_sub]; exact hls
  · show view (appGo _ _ _ _ _).1 j = _
    rw [u2, if_neg (by omega), h.off j hj]
  · simp only
    rw [if_pos h0, total_snoc]
theorem SvP.sync {N : Nat} {D0 D : DD} {fr ln : Nat} {es : List (List UInt8)} (h : SvP N D0 D fr ln es) :
    UpN N (syncD D) ∧ (syncD D).pend = [] ∧ Laid (syncD D) fr ln es (ln - total es) ∧ (∀ j, ¬ (fr ≤ j ∧ j < fr + ln) → view (syncD D) j = view D0 j) ∧ (syncD D).writes ≤ D0.writes + total es ∧ (D0.left = 0 → (syncD D).left = 0) := by
  obtain ⟨s1, s2, s3, s4⟩ := h.up.sync
  refine ⟨s1, s2, h.laid.congr s3, fun j hj => by rw [s3, h.off j hj], ?_, fun h0 => by rw [s4]; exact h.calm h0⟩
  have : (syncD D).writes = D.writes := by unfold syncD; split <;> rfl
  rw [this]; exact h.wr
/-- Wiping what is blank. -/
theorem wipe_blank {N : Nat} {D : DD} (hu : UpN N D) : ∀ (n x : Nat), x + n ≤ N → (∀ i, i < n → view D (x + i) = zb 64) → wipeGo n D (x : Int) false = (D, 0) := by
  intro n
  induction n with
  | zero => intro x _ _; rfl
  | succ n ih =>
    intro x hx hv
    have h0 : readD D (x : Int) = zb 64 := by have := hv 0 (by omega); simpa [view] using this
    rw [wipeGo, if_pos (hu.ok (by omega)), if_pos h0]
    have := ih (x + 1) (by omega) fun i hi => by have := hv (i + 1) (by omega); rw [show x + 1 + i = x + (i + 1) by omega]; exact this
    rw [show ((x : Int) + 1) = ((x + 1 : Nat) : Int) by omega]
    exact this
theorem areaS_blank {D : DD} {fr ln : Nat} (hv : ∀ i, i < ln → view D (fr + i) = zb 64) : areaS D fr ln = List.replicate ln (zb 64) := area_eq (by simp) fun i hi => by rw [hv i hi, getD_rep hi]
theorem scan_blank {D : DD} {fr ln : Nat} (hv : ∀ i, i < ln → view D (fr + i) = zb 64) : scanM (areaS D fr ln) = ([], 0) := by
  have := scanM_entries (es := []) (R := List.replicate ln (zb 64)) (by simp) (oneM_blank ln)
  rw [areaS_blank hv]
  simpa [secsAll, total] using this
theorem clear_blank {N : Nat} {D : DD} {fr ln : Nat} (hu : UpN N D) (hl : 1 ≤ ln) (hfit : fr + ln ≤ N) (hv : ∀ i, i < ln → view D (fr + i) = zb 64) : clearM D (fr : Int) (ln : Int) = (D, 0) := by
  unfold clearM
  rw [if_neg (by simp [hu.down]), if_pos ⟨by omega, by omega, by rw [hu.len]; omega, by rw [hu.len]; omega⟩, Int.toNat_natCast]
  exact wipe_blank hu ln fr hfit hv
theorem openAt_blank {D : DD} {fr ln : Nat} (hv : ∀ i, i < ln → view D (fr + i) = zb 64) : openAt D (fr : Int) (ln : Int) = 0 := by
  unfold openAt
  rw [Int.toNat_natCast, Int.toNat_natCast, scan_blank hv]
theorem open_blank {N : Nat} {D : DD} {fr ln : Nat} (hu : UpN N D) (hl : 1 ≤ ln) (hfit : fr + ln ≤ N) (hv : ∀ i, i < ln → view D (fr + i) = zb 64) : openM D (fr : Int) (ln : Int) = (D, 0) := by
  unfold openM
  rw [if_neg (by simp [hu.down]), if_pos ⟨by omega, by omega, by rw [hu.len]; omega, by rw [hu.len]; omega⟩, openAt_blank hv, Int.toNat_natCast]
  have := wipe_blank hu ln fr hfit hv
  simpa using this
/-- What a crash leaves alone. -/
theorem crashF_off (kept : List Int) (y : Nat) : ∀ (L : List (Int × List UInt8)) (f : List (List UInt8)) (i : Nat), (∀ p ∈ L, 0 ≤ p.1 ∧ p.1 ≠ (y : Int)) → (crashF kept f i L).getD y [] = f.getD y [] := by
  intro L
  induction L with
  | nil => intro f i _; rfl
  | cons p L ih =>
    intro f i h
    rw [crashF, ih _ _ fun q hq => h q (by simp [hq])]
    obtain ⟨h1, h2⟩ := h p (by simp)
    rw [List.getD_eq_getElem?_getD, List.getElem?_set, if_neg (by omega), ← List.getD_eq_getElem?_getD]
theorem SvB.crash {D0 D : DD} {fr ln : Nat} (h : SvB D0 D fr ln) (kept : List Int) (h0 : D0.pend = []) {j : Nat} (hj : ¬ (fr ≤ j ∧ j < fr + ln)) : view (crashD D kept) j = view D0 j := by
  rw [viewE rfl, viewE h0]
  show (crashF kept D.firm 0 D.pend).getD j [] = _
  rw [crashF_off kept j _ _ _ fun p hp => by have := h.pend p hp; omega, h.firm]
end Go.Proofs.YtieejbkbdfccdaaGreat

set_option linter.unusedVariables false
set_option linter.unusedSimpArgs false
namespace Go.Proofs.YtieejbkbdfccdaaGreat
open Go
structure SvOk (D D' : DD) (fr : Nat) (t : Tr) : Prop where
  up : UpN 4002 D'
  pend : D'.pend = []
  laid : Laid D' fr 2000 (entsB t) (2000 - total (entsB t))
  off : ∀ j, ¬ (fr ≤ j ∧ j < fr + 2000) → view D' j = view D j
  wr : D'.writes ≤ D.writes + total (entsB t)
  calm : D.left = 0 → D'.left = 0
def SaveR (D : DD) (fr : Nat) (t : Tr) (w : World) (b : Nat) (F : List Nat) (x : Value) (w' : World) : Prop :=
  ∃ (D' : DD) (F' : List Nat) (c : Int) (n : Nat), x = .tuple #[i64 n, i64 c] ∧ IsD w' b D' F' ∧ Grow F w F' w' ∧ (c = 0 → n = t.size ∧ SvOk D D' fr t) ∧ (c ≠ 0 → SvB D D' fr 2000 ∧ D.left ≠ 0)
structure SvI (W w0 : World) (b r q : Nat) (F : List Nat) (D : DD) (fr : Nat) (t : Tr) (tv : Value) (j : Nat) (D' : DD) (F' : List Nat) (e : Env) (w' : World) : Prop where
  isd : IsD w' b D' F'
  svp : SvP 4002 D D' fr 2000 ((entsB t).take j)
  roll : IsRoll w' r b fr (2000 : Nat) (total ((entsB t).take j) : Nat)
  out : r ∉ F'
  fr0 : Fr [] w0 w'
  box : mm w' q = [tv, i64 60]
  qlt : q < sz w'
  grow : Grow F W F' w'
  e12 : e 12 = pt r 0
  e5 : e 5 = pt q 0
  e53 : e 53 = i64 t.size
def SvJ (W w0 : World) (b r q : Nat) (F : List Nat) (D : DD) (fr : Nat) (t : Tr) (tv : Value) (m : Nat) (e : Env) (w' : World) : Prop :=
  ∃ (j : Nat) (D' : DD) (F' : List Nat), m = t.size - j ∧ j ≤ t.size ∧ SvI W w0 b r q F D fr t tv j D' F' e w' ∧ e 54 = i64 j
theorem entsB_ok {t : Tr} {w : World} {v : Value} (hT : IsT w t v) (hk : KeyOk t.ino) : ∀ e ∈ entsB t, e.length ≤ 3840 := fun e he => by
  obtain ⟨p, hp, rfl⟩ := List.mem_map.1 he
  obtain ⟨k1, k2, k3⟩ := hk p hp
  exact entB_3840 (by omega) k3 (hT.okR p hp)
theorem entsB_len (t : Tr) : (entsB t).length = t.size := by simp [entsB, Tr.size_ino]
theorem entsB_take {t : Tr} {j : Nat} {p : KR} (hp : t.ino[j]? = some p) : (entsB t).take (j + 1) = (entsB t).take j ++ [entB p] := by
  rw [List.take_add_one, entsB, List.getElem?_map, hp]; rfl
theorem total_take (es : List (List UInt8)) (j : Nat) : total (es.take j) ≤ total es := by
  have := total_append (es.take j) (es.drop j)
  rw [List.take_append_drop] at this
  omega
set_option maxHeartbeats 8000000 in
set_option maxRecDepth 20000 in
theorem save_step {W w0 : World} {b r q fr : Nat} {F : List Nat} {D : DD} {t : Tr} {tv : Value} (hT : IsT w0 t tv) (hs : SrtK t.ino) (hk : KeyOk t.ino) (hn : t.size ≤ 60) (hneed : total (entsB t) ≤ 2000) (hfit : fr + 2000 ≤ 4002) (hF0 : ∀ k ∈ F, sz w0 ≤ k) (hr0 : sz w0 ≤ r) (hW0 : sz w0 ≤ sz W) (hrq : r ≠ q) (hrW : sz W ≤ r) (hqW : q < sz W) (hqF : q ∉ F)
    (hw : D.writes + 5000 < 4611686018427387904) {j : Nat} (hj : j ≤ t.size) {D' : DD} {F' : List Nat} {e : Env} {w1 : World} (hI : SvI W w0 b r q F D fr t tv j D' F' e w1) (e54 : e 54 = i64 j) {K : KT}
    (hnext : ∀ e' D2 F2 w', SvI W w0 b r q F D fr t tv (j + 1) D2 F2 e' w' → j < t.size → e' 54 = i64 (j + 1 : Nat) → K .normal e' w')
    (hdone : j = t.size → ∀ e', e' 12 = pt r 0 → e' 5 = pt q 0 → K (.exit 0) e' w1)
    (hbad : ∀ e' D2 F2 w' (c : Int), IsD w' b D2 F2 → Grow F W F2 w' → c ≠ 0 → SvB D D2 fr 2000 → D.left ≠ 0 → e' 6 = i64 0 → e' 7 = i64 c → K .ret e' w') : F9B0 e w1 K := by
  obtain ⟨isd, svp, roll, out, fr0, box, qlt, grow, e12, e5, e53⟩ := hI
  unfold F9B0
  by_cases hlt : j < t.size
  · obtain ⟨p, hp⟩ : ∃ p, t.ino[j]? = some p := ⟨_, List.getElem?_eq_getElem (by rw [Tr.size_ino]; exact hlt)⟩
    have hpk := hk p (List.mem_of_getElem? hp)
    have hji : (j : Int) < t.size := by omega
    have hwj : IntKind.i64.wrap ((j : Int) + 1) = ((j + 1 : Nat) : Int) := wrap64 (by omega) (by omega)
    have hz8 : [Value.int IntKind.i64 0, Value.int IntKind.i64 0, Value.int IntKind.i64 0, Value.int IntKind.i64 0, Value.float FloatKind.f64 0, Value.int IntKind.i64 0, Value.string ByteArray.empty, Value.slice none 0 0] = rcV rz (.slice none 0 0) := rfl
    have hspz : ∀ x l n c, splice (rcV rz (.slice none 0 0)) 0 (rcV x (.slice l n c)) = rcV x (.slice l n c) := fun _ _ _ _ => splice_full rfl
    have len8 : ∀ x lx, (rcV x lx).length = 8 := fun _ _ => rfl
    have t8 : ∀ r lv, (rcV r lv).take 8 = rcV r lv := fun _ _ => rfl
    have h2 : ([tv, i64 60] : List Value).take 2 = [tv, i64 60] := rfl
    try simp (maxDischargeDepth := 8) [↓sC, sB, sM, e5, e12, e53, e54, hji, hlt, box, qlt]
    refine (at_spec (room := 60) (hT.fr0 fr0) (KeyOk.shT hk hs (by omega)) hp).call ?_
    rintro _ w3 ⟨a3, c3, rfl, hr3, f3⟩
    obtain ⟨W4, hW4⟩ : ∃ W4, W4 = wr (nw w3 (rcV rz (.slice none 0 0)) 61) (sz w3) (rcV p.2 (.slice a3 p.2.list.length c3)) := ⟨_, rfl⟩
    have f4 : Fr [] w3 W4 := by rw [hW4]; exact ((Fr.refl [] w3).nw _ _).wr (.inr (Nat.le_refl _)) _
    have q4 : mm W4 (sz w3) = rcV p.2 (.slice a3 p.2.list.length c3) := by rw [hW4]; exact mm_wr_same (by simp [fz_nw]) _
    try simp (maxDischargeDepth := 8) [↓sC, sB, sM, hz8, hspz, rcV_oneT, len8, ← hW4, q4, t8]
    refine (entry_spec (key := p.1) (hr3.fr0 f4) hpk.2.2 (by omega)).call ?_
    rintro v5 w5 ⟨hown, f5⟩
    have f15 := (f3.trans0 f4).trans0 f5
    have hE : (entB (p.1, p.2)).length ≤ 3840 := entB_3840 (p := p) (by omega) hpk.2.2 hr3.2
    have hE' : (entB p).length ≤ 3840 := hE
    have isd5 := isd.fr0 f15
    have hFlt := isd.ltF
    have hF1 := isd5.ltF
    have hsz14 : sz w1 ≤ sz W4 := (f3.trans0 f4).size
    have htk := entsB_take hp
    have htot := total_take (entsB t) (j + 1)
    rw [htk, total_snoc] at htot
    have hp2 : total ((entsB t).take j) + need (entB p).length ≤ 2000 := by omega
    obtain ⟨g1, g2, g3⟩ := svp.app hfit (e := entB p) hE hp2
    have hpl := svp.plen
    have hwr := svp.wr
    have roll5 := roll.fr f15 (by simp)
    refine (append_spec (B := entB p) roll5 isd5 out (own_rd hown) (fun _ k hk hm => by have := (own_lt hown k hk).1; have := hFlt k hm; omega) (by omega) (by omega) (by omega) (by omega) (by omega)).call ?_
    rintro _ w6 ⟨F2, hA⟩
    obtain ⟨hval, hisd, hnew, hfr, hroll, hout⟩ := hA
    subst hval
    have hG6 : Grow F W F2 w6 := by
      refine ⟨?_, fun k hk => ?_⟩
      · refine (grow.fr.trans0 f15).trans hfr (fun k hk => ?_)
        rcases List.mem_cons.1 hk with rfl | hk
        · exact .inr hrW
        · exact grow.new k hk
      · rcases hnew k hk with h | h
        · exact grow.new k h
        · exact .inr (by have := grow.fr.size; have := f15.size; omega)
    have hF0' : Fr [] w0 w6 := (fr0.trans0 f15).trans hfr (fun k hk => .inr (by
      rcases List.mem_cons.1 hk with rfl | hk
      · exact hr0
      · rcases grow.new k hk with h | h
        · exact hF0 k h
        · omega))
    have hqr : q ∉ r :: F' := fun hm => by
      rcases List.mem_cons.1 hm with h | h
      · exact hrq h.symm
      · rcases grow.new q h with h | h
        · exact hqF h
        · omega
    have box6 : mm w6 q = [tv, i64 60] := by rw [hfr.mm (f15.lt qlt) hqr, f15.mm qlt (by simp), box]
    have qlt6 : q < sz w6 := hfr.lt (f15.lt qlt)
    obtain ⟨c, hc⟩ : ∃ c, c = (appM fr 2000 (total ((entsB t).take j)) (entB p) D').2.1 := ⟨_, rfl⟩
    rw [← hc] at g2 g3 ⊢
    by_cases h0 : c = 0
    · obtain ⟨g4, g5⟩ := g2 h0
      rw [g5] at hroll
      try simp (maxDischargeDepth := 8) [↓sC, sB, sM, h0, e54, hwj, -Int.natCast_add]
      refine hnext _ _ F2 _ ⟨hisd, by rw [htk]; exact g4, by rw [htk]; exact hroll, hout, hF0', box6, qlt6, hG6, by simp [put_get, e12], by simp [put_get, e5], by simp [put_get, e53]⟩ hlt (by simp [put_get])
    · try simp (maxDischargeDepth := 8) [↓sC, sB, sM, h0]
      refine hbad _ _ F2 _ c hisd hG6 h0 g1 (fun hl => h0 (g3 hl)) (by simp [put_get]) (by simp [put_get])
  · have hji : ¬ (j : Int) < t.size := by omega
    try simp (maxDischargeDepth := 8) [↓sC, sB, sM, e5, e12, e53, e54, hji, hlt]
    exact hdone (by omega) _ (by simp [put_get, e12]) (by simp [put_get, e5])
end Go.Proofs.YtieejbkbdfccdaaGreat

set_option linter.unusedVariables false
set_option linter.unusedSimpArgs false
namespace Go.Proofs.YtieejbkbdfccdaaGreat
open Go
set_option maxHeartbeats 8000000 in
set_option maxRecDepth 20000 in
theorem save_spec {w w0 : World} {b fr : Nat} {F : List Nat} {D : DD} {t : Tr} {tv : Value} (hT : IsT w0 t tv) (hs : SrtK t.ino) (hk : KeyOk t.ino) (hn : t.size ≤ 60) (hneed : total (entsB t) ≤ 2000) (hfr : fr + 2000 ≤ 4002) (hF0 : ∀ k ∈ F, sz w0 ≤ k)
    (hf0 : Fr [] w0 w) (h : IsD w b D F) (hu : UpN 4002 D) (hp : D.pend = []) (hv : ∀ i, i < 2000 → view D (fr + i) = zb 64) (hw : D.writes + 5000 < 4611686018427387904) :
    Ret P 9 #[pt b 0, ar fr 2000, .agg #[tv, i64 60]] w fun x w' => SaveR D fr t w b F x w' := by
  refine F9ok ?_
  unfold F9 ar
  have hc1 : (Value.agg #[i64 fr, i64 2000]).cells.toList = [i64 fr, i64 2000] := rfl
  have hc2 : (Value.agg #[tv, i64 60]).cells.toList = [tv, i64 60] := rfl
  have ht1 : ([i64 fr, i64 2000] : List Value).take 2 = [i64 fr, i64 2000] := rfl
  have ht2 : ([tv, i64 60] : List Value).take 2 = [tv, i64 60] := rfl
  obtain ⟨W, hW⟩ : ∃ W, W = nw (nw w [i64 fr, i64 2000] 42) [tv, i64 60] 32 := ⟨_, rfl⟩
  have fW : Fr [] w W := by rw [hW]; exact ((Fr.refl [] w).nw _ _).nw _ _
  have hsW : sz W = sz w + 2 := by rw [hW]; simp [sz_nw]
  have m0 : mm W (sz w) = [i64 fr, i64 2000] := by rw [hW, mm_nw, if_neg (by simp [sz_nw]), mm_nw, if_pos rfl]
  have m1 : mm W (sz w + 1) = [tv, i64 60] := by rw [hW, mm_nw, if_pos (by simp [sz_nw])]
  have hFlt := h.ltF
  have hfit : fitsM D.firm.length (fr : Int) 2000 := ⟨by omega, by omega, by rw [hu.len]; omega, by rw [hu.len]; omega⟩
  have hcl : clearM D (fr : Int) 2000 = (D, 0) := clear_blank (ln := 2000) hu (by omega) hfr hv
  have hop : openM D (fr : Int) 2000 = (D, 0) := open_blank (ln := 2000) hu (by omega) hfr hv
  have hoa : openAt D (fr : Int) 2000 = 0 := openAt_blank (ln := 2000) hv
  try simp (maxDischargeDepth := 8) [↓sC, sB, sM, hc1, hc2, ← hW, m0, ht1]
  have hsc := scan_spec (fr := (fr : Int)) (ln := 2000) (h.fr0 fW)
  unfold ar at hsc
  refine hsc.call ?_
  rintro x w1 ⟨f1, _, _, x3⟩
  obtain ⟨ov, Lp, rfl, _, _⟩ := x3 hu.down hfit
  have n0 : mm w1 (sz w) = [i64 fr, i64 2000] := by rw [f1.mm (by omega) (by simp), m0]
  have n1 : mm w1 (sz w + 1) = [tv, i64 60] := by rw [f1.mm (by omega) (by simp), m1]
  have k1 : sz w + 1 < sz w1 := by have := f1.size; omega
  have k1' : sz w < sz w1 := by omega
  try simp (maxDischargeDepth := 8) [↓sC, sB, sM, n0, n1, k1, k1', ht2]
  have fd : Fr [] w1 (drew w1) := (Fr.refl [] w1).drew
  refine (need_spec (hT.fr0 (((hf0.trans0 fW).trans0 f1).trans0 fd)) hs hk hn).call ?_
  rintro _ w2 ⟨rfl, f2⟩
  have q2 := (f1.trans0 fd).trans0 f2
  have o0 : mm w2 (sz w) = [i64 fr, i64 2000] := by rw [q2.mm (by omega) (by simp), m0]
  have o1 : mm w2 (sz w + 1) = [tv, i64 60] := by rw [q2.mm (by omega) (by simp), m1]
  have k2 : sz w + 1 < sz w2 := by have := q2.size; omega
  have k2' : sz w < sz w2 := by omega
  have hc5 : ((2000 : Int) < (total (entsB t) : Nat)) = False := eq_false (by omega)
  have hc6 : (2000 < total (entsB t)) = False := eq_false (by omega)
  try simp (maxDischargeDepth := 8) [↓sC, sB, sM, o0, o1, k2, k2', ht1, ht2, hc5, hc6]
  have hd2 := (h.fr0 fW).fr0 q2
  have hcs := clear_spec (fr := (fr : Int)) (ln := 2000) hd2 (by omega) (by omega) (fun _ => by omega) (by rw [hp]; simp) (by omega)
  unfold ar at hcs
  refine hcs.call ?_
  rw [hcl]
  rintro _ w3 ⟨rfl, F3, hd3', hg3⟩
  have hd3 : IsD w3 b D F3 := hd3'
  have hG3 : Grow F W F3 w3 := ⟨(q2.mono (T := F) (by simp)).trans hg3.fr (fun k hk => .inl hk), fun k hk => (hg3.new k hk).imp id (fun h => Nat.le_trans q2.size h)⟩
  have hnF : ∀ k, sz w ≤ k → k ∉ F := fun k hk hm => by have := hFlt k hm; omega
  have p0 : mm w3 (sz w) = [i64 fr, i64 2000] := by rw [hG3.fr.mm (by omega) (hnF _ (by omega)), m0]
  have p1 : mm w3 (sz w + 1) = [tv, i64 60] := by rw [hG3.fr.mm (by omega) (hnF _ (by omega)), m1]
  have k3 : sz w + 1 < sz w3 := by have := hG3.fr.size; omega
  have k3' : sz w < sz w3 := by omega
  try simp (maxDischargeDepth := 8) [↓sC, sB, sM, p0, p1, k3, k3', ht1, ht2]
  have hos := open_rspec (fr := (fr : Int)) (ln := 2000) hd3 (by omega) (by omega) (fun _ => by omega) (by rw [hp]; simp) (by omega)
  unfold ar at hos
  refine hos.call ?_
  rintro x w4 ⟨F4, hO⟩
  obtain ⟨hisd, hgrow, _, hgood⟩ := hO
  rw [hop] at hisd hgood
  obtain ⟨r, ov4, Lp4, rfl, hroll, hr3, hrF, _⟩ := hgood rfl
  rw [hoa] at hroll
  have hG4 : Grow F W F4 w4 := ⟨hG3.fr.trans hgrow.fr hG3.new, fun k hk => (hgrow.new k hk).elim (hG3.new k) (fun h => .inr (Nat.le_trans hG3.fr.size h))⟩
  have r1 : mm w4 (sz w + 1) = [tv, i64 60] := by rw [hG4.fr.mm (by omega) (hnF _ (by omega)), m1]
  have k4 : sz w + 1 < sz w4 := by have := hG4.fr.size; omega
  have k4' : sz w < sz w4 := by omega
  have hF04 : Fr [] w0 w4 := (hf0.trans0 fW).trans hG4.fr (fun k hk => .inr (hF0 k hk))
  have hsz0 : sz w0 ≤ sz w := hf0.size
  have hszr : sz W ≤ r := by have := hG3.fr.size; omega
  try simp (maxDischargeDepth := 8) [↓sC, sB, sM, r1, k4, k4', ht2]
  refine (len_spec' (room := 60) (hT.fr0 hF04)).call ?_
  rintro _ w5 ⟨rfl, f5⟩
  have hG5 := hG4.calm f5
  have hroll5 : IsRoll w5 r b fr (2000 : Nat) (total ((entsB t).take 0) : Nat) := hroll.fr f5 (by simp)
  try simp (maxDischargeDepth := 8) [↓sC, sB, sM]
  refine loopE_of (SvJ W w0 b r (sz w + 1) F D fr t tv) t.size ⟨0, D, F4, by omega, by omega, ⟨hisd.fr0 f5, SvP.start hu hp hv, hroll5, hrF, hF04.trans0 f5, by rw [f5.mm k4 (by simp), r1], f5.lt k4, hG5, by simp [put_get], by simp [put_get], by simp [put_get]⟩, by simp [put_get]⟩ ?_
  rintro m e w6 ⟨j, D6, F6, rfl, hj, hI, e54⟩
  have hsv := hI.svp
  have hgI := hI.grow
  refine save_step hT hs hk hn hneed hfr hF0 (by omega) (by omega) (by omega) hszr (by omega) (hnF _ (by omega)) hw hj hI e54 (fun e' D2 F2 w' hI' hlt e54' => ⟨t.size - (j + 1), by omega, j + 1, D2, F2, rfl, by omega, hI', e54'⟩) (fun hjt e' e12 e5 => ?_) (fun e' D2 F2 w' c hd' hg' hc hb hl e6 e7 => ?_)
  · subst hjt
    have hall : (entsB t).take t.size = entsB t := List.take_of_length_le (by rw [entsB_len]; omega)
    rw [hall] at hsv
    obtain ⟨s1, s2, s3, s4, s5, s6⟩ := hsv.sync
    try simp (maxDischargeDepth := 8) [↓sC, sB, sM, e12, e5]
    refine (rsyncR_spec hI.roll hI.isd).call ?_
    rw [hsv.up.down]
    rintro _ w7 ⟨rfl, hd7, f7⟩
    have hq : sz w + 1 ∉ F6 := fun hm => by
      rcases hgI.new _ hm with h | h
      · exact hnF _ (by omega) h
      · omega
    have u1 : mm w7 (sz w + 1) = [tv, i64 60] := by rw [f7.mm hI.qlt hq, hI.box]
    have k7 : sz w + 1 < sz w7 := f7.lt hI.qlt
    have hF07 : Fr [] w0 w7 := hI.fr0.trans f7 (fun k hk => .inr ((hgI.new k hk).elim (hF0 k) (fun h => by omega)))
    try simp (maxDischargeDepth := 8) [↓sC, sB, sM, e12, e5, u1, k7, ht2]
    refine (len_spec' (room := 60) (hT.fr0 hF07)).call ?_
    rintro _ w8 ⟨rfl, f8⟩
    try simp (maxDischargeDepth := 8) [↓sC, sB, sM]
    refine ⟨syncD D6, F6, 0, t.size, rfl, hd7.fr0 f8, ⟨?_, fun k hk => (hgI.new k hk).imp id (fun h => by omega)⟩, fun _ => ⟨rfl, s1, s2, s3, s4, s5, s6⟩, fun h => absurd rfl h⟩
    exact (((fW.mono (T := F) (by simp)).trans hgI.fr (fun k hk => .inl hk)).trans f7 (fun k hk => (hgI.new k hk).imp id (fun h => by omega))).trans (f8.mono (T := F) (by simp)) (fun k hk => .inl hk)
  · try simp (maxDischargeDepth := 8) [↓sC, sB, sM, e6, e7]
    refine ⟨D2, F2, c, 0, rfl, hd', ⟨(fW.mono (T := F) (by simp)).trans hg'.fr (fun k hk => .inl hk), fun k hk => (hg'.new k hk).imp id (fun h => by omega)⟩, fun h => absurd h hc, fun _ => ⟨hb, hl⟩⟩
end Go.Proofs.YtieejbkbdfccdaaGreat

set_option linter.unusedVariables false
set_option linter.unusedSimpArgs false
namespace Go.Proofs.YtieejbkbdfccdaaGreat
open Go
def P1 (n : Nat) : PinP := ⟨1, 0, 0, n, 0, 60⟩
def P2 (n : Nat) : PinP := ⟨2, 0, 1, n, 0, 60⟩
theorem P1_ok {n : Nat} (h : n ≤ 60) : okPin (P1 n) := by
  unfold okPin P1; simp only; omega
theorem P2_ok {n : Nat} (h : n ≤ 60) : okPin (P2 n) := by
  unfold okPin P2; simp only; omega
/-- A disk with the first shelf, pinned. -/
structure St1 (D : DD) (s : Tr) : Prop where
  up : UpN 4002 D
  pend : D.pend = []
  v0 : view D 0 = zb 64
  v1 : view D 1 = sealOf (pinB (P1 s.size))
  laid : Laid D 2 2000 (entsB s) (2000 - total (entsB s))
  blank : ∀ i, i < 2000 → view D (2002 + i) = zb 64
  wr : D.writes ≤ 10000
/-- What is there behind the crash. -/
def Fin (s t : Tr) (f : Int) (D : DD) : Prop :=
  D.down = false ∧ D.firm.length = 4002 ∧ ((getM (view D 0) (view D 1) = some (P1 s.size) ∧ f ≠ 0 ∧ (scanM (areaS D 2 2000)).1 = entsB s) ∨ (getM (view D 0) (view D 1) = some (P2 t.size) ∧ (scanM (areaS D 2002 2000)).1 = entsB t))
theorem Laid.congr' {D D' : DD} {fr ln left : Nat} {es : List (List UInt8)} (h : Laid D fr ln es left) (hv : ∀ i, fr ≤ i → i < fr + ln → view D' i = view D i) : Laid D' fr ln es left :=
  ⟨h.1, fun i hi => by rw [hv _ (by omega) (by omega)]; exact h.2 i hi⟩
theorem getM_one {a : List UInt8} {n : Nat} (hn : n ≤ 60) (h : ¬ isWhole a) : getM a (sealOf (pinB (P1 n))) = some (P1 n) := by
  unfold getM
  rw [ofM_bad h, ofM_seal (P1_ok hn)]
  rfl
theorem getM_two {n m : Nat} (hn : n ≤ 60) (hm : m ≤ 60) : getM (sealOf (pinB (P2 m))) (sealOf (pinB (P1 n))) = some (P2 m) := by
  unfold getM
  rw [ofM_seal (P2_ok hm), ofM_seal (P1_ok hn)]
  rfl
theorem fin_bad {D1 D2 : DD} {s t : Tr} {f : Int} (kept : List Int) (h : St1 D1 s) (hs : s.size ≤ 60) (hes : ∀ e ∈ entsB s, e.length ≤ 3840) (hb : SvB D1 D2 2002 2000) (hf : f ≠ 0) : Fin s t f (crashD D2 kept) := by
  have hv : ∀ j, j < 2002 → view (crashD D2 kept) j = view D1 j := fun j hj => hb.crash kept h.pend (by omega)
  refine ⟨rfl, ?_, .inl ⟨?_, hf, ?_⟩⟩
  · show (crashF kept D2.firm 0 D2.pend).length = 4002
    rw [crashF_length, hb.firm, h.up.len]
  · rw [hv 0 (by omega), hv 1 (by omega), h.v0, h.v1]
    exact getM_one hs notWhole_zb
  · rw [(h.laid.congr' fun i h1 h2 => hv i (by omega)).scan hes]
theorem fin_ok {D1 D2 D3 : DD} {s t : Tr} {f : Int} (kept : List Int) (h : St1 D1 s) (hs : s.size ≤ 60) (ht : t.size ≤ 60) (hes : ∀ e ∈ entsB s, e.length ≤ 3840) (het : ∀ e ∈ entsB t, e.length ≤ 3840) (ho : SvOk D1 D2 2002 t)
    (hput : putM (P2 t.size) D2 = (D3, f)) : Fin s t f (crashD D3 kept) := by
  have hu := ho.up
  have hl1 := h.laid
  have hv2 : ∀ j, j < 2002 → view D2 j = view D1 j := fun j hj => ho.off j (by omega)
  have hr : reachM D2 = 0 := by unfold reachM; rw [if_neg (by simp [hu.down]), if_neg (by rw [hu.len]; omega)]
  have hokp := P2_ok ht
  have hm : (P2 t.size).s % 2 = ((0 : Nat) : Int) := rfl
  have hwg : wipeGo 1 D2 ((0 : Nat) : Int) false = (D2, 0) := wipe_blank hu 1 0 (by omega) (fun i hi => by
    obtain rfl : i = 0 := by omega
    rw [hv2 _ (by omega), h.v0])
  have hokE := hu.ok (x := 0) (by omega)
  have hsl := sealOf_length (pinB_len hokp)
  have area1 : ∀ D : DD, (∀ j, 2 ≤ j → j < 2002 → view D j = view D1 j) → (scanM (areaS D 2 2000)).1 = entsB s := fun D hD => by
    rw [(hl1.congr' fun i h1 h2 => hD i (by omega) (by omega)).scan hes]
  have area2 : ∀ D : DD, (∀ j, 2002 ≤ j → view D j = view D2 j) → (scanM (areaS D 2002 2000)).1 = entsB t := fun D hD => by
    rw [(ho.laid.congr' fun i h1 h2 => hD i (by omega)).scan het]
  obtain ⟨y1, y2, y3⟩ := hu.writes (x := 0) (by omega) (sealOf (pinB (P2 t.size)))
  by_cases hl : D2.left = 1
  · have hE : writeE D2 ((0 : Nat) : Int) = 14 := by unfold writeE; rw [if_pos hokE, if_pos hl]
    unfold putM at hput
    rw [if_neg (by simp [hr]), if_neg (by simp [hokp]), hm, hwg] at hput
    simp only at hput
    rw [if_neg (by simp), hE, if_pos (by omega)] at hput
    simp only [Prod.mk.injEq] at hput
    obtain ⟨rfl, rfl⟩ := hput
    obtain ⟨a1, a2, a3, a4⟩ := crash_one (D := writeD D2 ((0 : Nat) : Int) (sealOf (pinB (P2 t.size)))) (N := 4002) (k := 0) (t := sealOf (pinB (P2 t.size))) kept (by rw [y2]; exact hu.len) (by omega) (by rw [y3, ho.pend]; rfl)
    have hv3 : ∀ i, i ≠ 0 → view (crashD (writeD D2 ((0 : Nat) : Int) (sealOf (pinB (P2 t.size)))) kept) i = view D2 i := fun i hi => by rw [a4, if_neg hi, y2, ← viewE ho.pend]
    have hv0 : view (crashD (writeD D2 ((0 : Nat) : Int) (sealOf (pinB (P2 t.size)))) kept) 0 = tear (zb 64) (sealOf (pinB (P2 t.size))) (clampN kept 0) := by
      rw [a4, if_pos rfl, y2, ← viewE ho.pend, hv2 0 (by omega), h.v0]
    refine ⟨a1.down, a1.len, ?_⟩
    rw [hv0, hv3 1 (by omega), hv2 1 (by omega), h.v1]
    by_cases hc : clampN kept 0 = 64
    · right
      refine ⟨?_, area2 _ fun j hj => hv3 j (by omega)⟩
      rw [hc]
      have : tear (zb 64) (sealOf (pinB (P2 t.size))) 64 = sealOf (pinB (P2 t.size)) := by
        unfold tear
        rw [List.take_of_length_le (by omega), List.drop_eq_nil_of_le (by simp)]
        simp
      rw [this]
      exact getM_two hs ht
    · left
      exact ⟨getM_one hs fun hh => hc ((whole_neu (pinB_len hokp) (clamp64 kept 0)).1 hh), by omega, area1 _ fun j h1 h2 => by rw [hv3 j (by omega), hv2 j (by omega)]⟩
  · obtain ⟨u1, u2, u3⟩ := hu.write (x := 0) (by omega) hl (sealOf (pinB (P2 t.size)))
    obtain ⟨s1, s2, s3, s4⟩ := u1.sync
    unfold putM at hput
    rw [if_neg (by simp [hr]), if_neg (by simp [hokp]), hm, hwg] at hput
    simp only at hput
    rw [if_neg (by simp), if_neg (fun hh => hh u2), if_neg (by rw [u1.down]; simp)] at hput
    simp only [Prod.mk.injEq] at hput
    obtain ⟨rfl, rfl⟩ := hput
    obtain ⟨a1, a2, a3, a4⟩ := crash_none (D := syncD (writeD D2 ((0 : Nat) : Int) (sealOf (pinB (P2 t.size))))) (N := 4002) kept s1.len s2
    have hv3 : ∀ i, view (crashD (syncD (writeD D2 ((0 : Nat) : Int) (sealOf (pinB (P2 t.size))))) kept) i = if i = 0 then sealOf (pinB (P2 t.size)) else view D2 i := fun i => by rw [a4, s3, up_view hu (by omega)]
    refine ⟨a1.down, a1.len, .inr ⟨?_, area2 _ fun j hj => by rw [hv3, if_neg (by omega)]⟩⟩
    rw [hv3 0, if_pos rfl, hv3 1, if_neg (by omega), hv2 1 (by omega), h.v1]
    exact getM_two hs ht
end Go.Proofs.YtieejbkbdfccdaaGreat
