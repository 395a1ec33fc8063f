/- RollFront: the plain law of a crash that keeps the fronts of what was written. -/
import Derived.Test.YticncfkpfpkfoaaRollQ
import Derived.Test.YticncfkpfpkfoaaRollU
import Derived.Test.YticncfkpfpkfoaaSTorn
set_option linter.unusedVariables false
set_option linter.unusedSimpArgs false
namespace Go.Proofs.Yticncfkpfpkfoaa
open Go

/-- Writes one behind the other. -/
def runW : Nat → List (List UInt8) → List (Int × List UInt8)
  | _, [] => []
  | x, s :: S => (((x : Nat) : Int), s) :: runW (x + 1) S
theorem runW_append : ∀ (S T : List (List UInt8)) (x : Nat), runW x (S ++ T) = runW x S ++ runW (x + S.length) T := by
  intro S
  induction S with
  | nil => intro T x; rfl
  | cons s S ih =>
    intro T x
    simp only [List.cons_append, runW, ih, List.length_cons]
    rw [show x + 1 + S.length = x + (S.length + 1) by omega]
theorem runW_len : ∀ (S : List (List UInt8)) (x : Nat), (runW x S).length = S.length := by
  intro S
  induction S with
  | nil => intro x; rfl
  | cons s S ih => intro x; simp [runW, ih]
theorem run_range (b : List UInt8) (n : Nat) : ∀ (k i x : Nat), (List.range k).map (fun j => (((x + i + j : Nat) : Int), sealOf (partS b n (i + j)))) = runW (x + i) (secsFrom b n k i) := by
  intro k
  induction k with
  | zero => intro i x; rfl
  | succ k ih =>
    intro i x
    rw [List.range_succ_eq_map, List.map_cons, List.map_map, secsFrom, runW]
    congr 1
    have := ih (i + 1) x
    rw [show x + i + 1 = x + (i + 1) by omega, ← this]
    apply List.map_congr_left
    intro j _
    simp only [Function.comp_apply, Nat.succ_eq_add_one]
    congr 2
    · omega
    · rw [show i + (j + 1) = i + 1 + j by omega]
theorem appM_run {N fr ln at_ : Nat} {B : List UInt8} {D D' : DD} (hc : CalmN N D) (hfit : fr + ln ≤ N) (hB : B.length ≤ 3840) (hn : at_ + need B.length ≤ ln) {q : Int × Nat} (h : appM fr ln at_ B D = (D', q)) :
    D'.pend = D.pend ++ runW (fr + at_) (sectorsM B) := by
  obtain ⟨L, hL, h2⟩ := app_in (N := N) (x := fr + at_) (B := B) (need B.length) 0 D hc (by omega)
  unfold appM at h
  rw [if_neg (by simp [hc.down]), if_neg (by omega), if_neg (by omega), h2] at h
  have hD := congrArg (fun p => p.1) h
  simp only at hD
  rw [← hD]
  simp only
  rw [hL, sectorsM_from]
  have := run_range B (need B.length) (need B.length) 0 (fr + at_)
  rw [this]
  rfl

theorem getD_set (f : List (List UInt8)) (x y : Nat) (s : List UInt8) (hx : x < f.length) : (f.set x s).getD y [] = if y = x then s else f.getD y [] := by
  rw [List.getD_eq_getElem?_getD, List.getD_eq_getElem?_getD, List.getElem?_set]
  by_cases h : x = y
  · subst h; rw [if_pos rfl, if_pos rfl, if_pos hx]; rfl
  · rw [if_neg h, if_neg (fun hh => h hh.symm)]
theorem crash_run (kept : List Int) : ∀ (S : List (List UInt8)) (f : List (List UInt8)) (i x : Nat), x + S.length ≤ f.length → ∀ y,
    (crashF kept f i (runW x S)).getD y [] = if x ≤ y ∧ y < x + S.length then tear (f.getD y []) (S.getD (y - x) []) (clampN kept (i + (y - x))) else f.getD y [] := by
  intro S
  induction S with
  | nil =>
    intro f i x _ y
    rw [if_neg (by simp)]
    rfl
  | cons s S ih =>
    intro f i x hx y
    rw [List.length_cons] at hx
    rw [runW, crashF, ih _ _ _ (by rw [List.length_set]; omega)]
    simp only [Int.toNat_natCast, List.length_cons]
    rw [getD_set f x y _ (by omega)]
    by_cases h1 : y = x
    · subst h1
      rw [if_neg (by omega), if_pos rfl, if_pos (by omega)]
      simp
    · rw [if_neg h1]
      by_cases h2 : x ≤ y ∧ y < x + (S.length + 1)
      · rw [if_pos (by omega), if_pos h2, show i + 1 + (y - (x + 1)) = i + (y - x) by omega]
        congr 1
        obtain ⟨d, hd⟩ : ∃ d, y - x = d + 1 := ⟨y - x - 1, by omega⟩
        rw [hd, show y - (x + 1) = d by omega]
        rfl
      · rw [if_neg (by omega), if_neg h2]

/-- Sectors of which a front is kept, over blank ones. -/
def tornGo : (Nat → Nat) → List (List UInt8) → List (List UInt8)
  | _, [] => []
  | c, s :: S => tear (zb 64) s (c 0) :: tornGo (fun k => c (k + 1)) S
theorem tornGo_len : ∀ (S : List (List UInt8)) (c : Nat → Nat), (tornGo c S).length = S.length := by
  intro S
  induction S with
  | nil => intro c; rfl
  | cons s S ih => intro c; simp [tornGo, ih]
theorem tornGo_append : ∀ (S T : List (List UInt8)) (c : Nat → Nat), tornGo c (S ++ T) = tornGo c S ++ tornGo (fun k => c (k + S.length)) T := by
  intro S
  induction S with
  | nil => intro T c; rfl
  | cons s S ih =>
    intro T c
    simp only [List.cons_append, tornGo, ih, List.length_cons]
    congr 2
theorem tornGo_at : ∀ (S : List (List UInt8)) (c : Nat → Nat) (i : Nat) (s : List UInt8), S[i]? = some s → (tornGo c S)[i]? = some (tear (zb 64) s (c i)) := by
  intro S
  induction S with
  | nil => intro c i s h; simp at h
  | cons a S ih =>
    intro c i s h
    cases i with
    | zero => simp at h; subst h; rfl
    | succ i =>
      simp only [List.getElem?_cons_succ] at h
      simp only [tornGo, List.getElem?_cons_succ]
      exact ih _ i s h
theorem tornGo_64 : ∀ (S : List (List UInt8)) (c : Nat → Nat), (∀ s ∈ S, s.length = 64) → ∀ s ∈ tornGo c S, s.length = 64 := by
  intro S
  induction S with
  | nil => intro c _ s hs; simp [tornGo] at hs
  | cons a S ih =>
    intro c h s hs
    rw [tornGo] at hs
    rcases List.mem_cons.1 hs with rfl | hs
    · exact tear_length (by simp) (h a List.mem_cons_self)
    · exact ih _ (fun s hs => h s (List.mem_cons_of_mem _ hs)) s hs
theorem tornGo_all : ∀ (S : List (List UInt8)) (c : Nat → Nat), (∀ s ∈ S, s.length = 64) → (∀ k, k < S.length → c k = 64) → tornGo c S = S := by
  intro S
  induction S with
  | nil => intro c _ _; rfl
  | cons a S ih =>
    intro c h hc
    rw [tornGo, ih _ (fun s hs => h s (List.mem_cons_of_mem _ hs)) (fun k hk => hc (k + 1) (by simp; omega)), hc 0 (by simp)]
    congr 1
    unfold tear
    rw [List.take_of_length_le (by rw [h a List.mem_cons_self]; omega), List.drop_eq_nil_of_le (by simp)]
    simp
theorem secs64 {b : List UInt8} : ∀ s ∈ sectorsM b, s.length = 64 := fun s hs => by
  obtain ⟨i, _, rfl⟩ := List.mem_map.1 hs
  exact sealOf_length (partS_len _ _ _)
theorem secsAll64 {es : List (List UInt8)} : ∀ s ∈ secsAll es, s.length = 64 := fun s hs => by
  obtain ⟨l, hl, hs⟩ := List.mem_flatten.1 hs
  obtain ⟨e, _, rfl⟩ := List.mem_map.1 hl
  exact secs64 s hs
theorem sectorsM_at {b : List UInt8} {i : Nat} (h : i < need b.length) : (sectorsM b)[i]? = some (sealOf (partS b (need b.length) i)) := by
  unfold sectorsM
  rw [List.getElem?_map, List.getElem?_range h]
  rfl
theorem torn_none {e : List UInt8} {c : Nat → Nat} {R : List (List UInt8)} (he : e.length ≤ 3840) (hR : ∀ s ∈ R, s.length = 64) (hc : ∀ k, c k ≤ 64) (hb : ∃ j, j < need e.length ∧ c j ≠ 64) : oneM (tornGo c (sectorsM e) ++ R) = none := by
  cases h : oneM (tornGo c (sectorsM e) ++ R) with
  | none => rfl
  | some p =>
    obtain ⟨b, k⟩ := p
    have hS : ∀ s ∈ tornGo c (sectorsM e) ++ R, s.length = 64 := fun s hs => by
      rcases List.mem_append.1 hs with hs | hs
      · exact tornGo_64 _ _ secs64 s hs
      · exact hR s hs
    obtain ⟨_, hk, _, hkl, hw, _⟩ := one_says hS h
    have hn64 := need_le he
    have hnp := need_pos e.length
    have hkp := need_pos b.length
    have hat : ∀ i, i < need e.length → (tornGo c (sectorsM e) ++ R)[i]? = some (tear (zb 64) (sealOf (partS e (need e.length) i)) (c i)) := fun i hi => by
      rw [List.getElem?_append_left (by rw [tornGo_len, sectorsM_len]; exact hi)]
      exact tornGo_at _ _ _ _ (sectorsM_at hi)
    have hwh : ∀ i, i < need e.length → i < k → c i = 64 := fun i hi hik => (whole_neu (partS_len _ _ _) (hc i)).1 (hw i _ hik (hat i hi)).1
    have h0 := hw 0 _ (by omega) (hat 0 (by omega))
    have hc0 := hwh 0 (by omega) (by omega)
    have hl0 := h0.2.2
    rw [hc0] at hl0
    have ht : tear (zb 64) (sealOf (partS e (need e.length) 0)) 64 = sealOf (partS e (need e.length) 0) := by
      unfold tear
      rw [List.take_of_length_le (by rw [sealOf_length (partS_len _ _ _)]; omega), List.drop_eq_nil_of_le (by simp)]
      simp
    rw [ht, leftOf_sec (by omega)] at hl0
    obtain ⟨j, hj, hjc⟩ := hb
    exact absurd (hwh j hj (by omega)) hjc
theorem torn_front : ∀ (es : List (List UInt8)) (c : Nat → Nat) (R : List (List UInt8)), (∀ e ∈ es, e.length ≤ 3840) → (∀ s ∈ R, s.length = 64) → (∀ k, c k ≤ 64) → oneM R = none →
    ∃ k, k ≤ es.length ∧ ∃ R', tornGo c (secsAll es) ++ R = secsAll (es.take k) ++ R' ∧ oneM R' = none := by
  intro es
  induction es with
  | nil => intro c R _ _ _ h; exact ⟨0, Nat.le_refl _, R, rfl, h⟩
  | cons e es ih =>
    intro c R he hR hc h
    have e1 : secsAll (e :: es) = sectorsM e ++ secsAll es := by simp [secsAll]
    by_cases hb : ∃ j, j < need e.length ∧ c j ≠ 64
    · refine ⟨0, Nat.zero_le _, tornGo c (secsAll (e :: es)) ++ R, by simp [secsAll], ?_⟩
      rw [e1, tornGo_append, List.append_assoc]
      exact torn_none (he e List.mem_cons_self) (fun s hs => by
        rcases List.mem_append.1 hs with hs | hs
        · exact tornGo_64 _ _ secsAll64 s hs
        · exact hR s hs) hc hb
    · have hall : tornGo c (sectorsM e) = sectorsM e := tornGo_all _ _ secs64 (fun k hk => by
        rw [sectorsM_len] at hk
        by_cases hh : c k = 64
        · exact hh
        · exact absurd ⟨k, hk, hh⟩ hb)
      obtain ⟨k, hk, R', h1, h2⟩ := ih (fun k => c (k + (sectorsM e).length)) R (fun x hx => he x (List.mem_cons_of_mem _ hx)) hR (fun k => hc _) h
      refine ⟨k + 1, by simp; omega, R', ?_, h2⟩
      rw [e1, tornGo_append, List.append_assoc, h1, hall, List.take_succ_cons]
      simp [secsAll]
theorem clampN_le (kept : List Int) (i : Nat) : clampN kept i ≤ 64 := by
  unfold clampN
  split
  · omega
  · omega

theorem tornGo_getD (S : List (List UInt8)) (c : Nat → Nat) (i : Nat) (h : i < S.length) : (tornGo c S).getD i [] = tear (zb 64) (S.getD i []) (c i) := by
  obtain ⟨s, hs⟩ : ∃ s, S[i]? = some s := ⟨_, List.getElem?_eq_getElem h⟩
  rw [List.getD_eq_getElem?_getD, List.getD_eq_getElem?_getD, tornGo_at S c i s hs, hs]
  rfl
theorem total_append (a b : List (List UInt8)) : total (a ++ b) = total a + total b := by unfold total; rw [List.map_append, List.sum_append]
theorem secsAll_append (a b : List (List UInt8)) : secsAll (a ++ b) = secsAll a ++ secsAll b := by unfold secsAll; rw [List.map_append, List.flatten_append]
theorem getD_app_l {α : Type} (a b : List α) (d : α) {i : Nat} (h : i < a.length) : (a ++ b).getD i d = a.getD i d := by
  rw [List.getD_eq_getElem?_getD, List.getD_eq_getElem?_getD, List.getElem?_append_left h]
theorem getD_app_r {α : Type} (a b : List α) (d : α) {i : Nat} (h : a.length ≤ i) : (a ++ b).getD i d = b.getD (i - a.length) d := by
  rw [List.getD_eq_getElem?_getD, List.getD_eq_getElem?_getD, List.getElem?_append_right h]
theorem area_eq {D : DD} {fr ln : Nat} {L : List (List UInt8)} (hl : L.length = ln) (h : ∀ i, i < ln → view D (fr + i) = L.getD i []) : areaS D fr ln = L := by
  apply List.ext_getElem?
  intro i
  unfold areaS
  rw [List.getElem?_map]
  by_cases hi : i < ln
  · rw [List.getElem?_range hi, Option.map_some]
    have := h i hi
    unfold view at this
    rw [this, List.getD_eq_getElem?_getD, List.getElem?_eq_getElem (by omega)]
    rfl
  · rw [List.getElem?_eq_none (by rw [List.length_range]; omega), List.getElem?_eq_none (by omega)]
    rfl
theorem view_nil {D : DD} (h : D.pend = []) (i : Nat) : view D i = D.firm.getD i [] := by
  unfold view readD
  rw [h]
  simp [lastW]
theorem getD_rep {n i : Nat} (h : i < n) : (List.replicate n (zb 64)).getD i [] = zb 64 := by
  rw [List.getD_eq_getElem?_getD, List.getElem?_replicate, if_pos h]; rfl
/-- What a crash leaves of entries behind those that are for good. -/
theorem front_crash {N fr ln left : Nat} {D : DD} {es1 es2 : List (List UInt8)} (kept : List Int) (hc : CalmN N D) (hfit : fr + ln ≤ N) (h1 : total es1 + left = ln) (h2 : total es2 ≤ left)
    (hb : ∀ i, i < ln → D.firm.getD (fr + i) [] = (secsAll es1 ++ List.replicate left (zb 64)).getD i []) (hp : D.pend = runW (fr + total es1) (secsAll es2)) (he1 : ∀ e ∈ es1, e.length ≤ 3840) (he2 : ∀ e ∈ es2, e.length ≤ 3840) :
    CalmN N (crashD D kept) ∧ (crashD D kept).pend = [] ∧ ∃ k, k ≤ es2.length ∧ ∃ R, areaS (crashD D kept) fr ln = secsAll (es1 ++ es2.take k) ++ R ∧ oneM R = none := by
  have hcl : CalmN N (crashD D kept) := ⟨rfl, rfl, by show (crashF kept D.firm 0 D.pend).length = N; rw [crashF_length, hc.len], by intro p hp; simp [crashD] at hp⟩
  refine ⟨hcl, rfl, ?_⟩
  have hl2 := secsAll_len es2
  have hl1 := secsAll_len es1
  obtain ⟨k, hk, R, hR1, hR2⟩ := torn_front es2 (fun j => clampN kept j) (List.replicate (left - total es2) (zb 64)) he2 (fun s hs => by rw [(List.mem_replicate.1 hs).2]; simp) (fun j => clampN_le kept j) (oneM_blank _)
  refine ⟨k, hk, R, ?_, hR2⟩
  rw [secsAll_append, List.append_assoc, ← hR1]
  refine area_eq (by simp [tornGo_len, hl1, hl2]; omega) (fun i hi => ?_)
  rw [view_nil rfl]
  show (crashF kept D.firm 0 D.pend).getD (fr + i) [] = _
  rw [hp, crash_run kept (secsAll es2) D.firm 0 (fr + total es1) (by rw [hl2, hc.len]; omega), hl2, hb i hi]
  by_cases c1 : i < total es1
  · rw [if_neg (by omega), getD_app_l _ _ _ (by omega), getD_app_l _ _ _ (by omega)]
  · rw [getD_app_r _ _ _ (by omega), getD_app_r _ _ _ (by omega), hl1]
    by_cases c2 : i < total es1 + total es2
    · rw [if_pos (by omega), getD_app_l _ _ _ (by rw [tornGo_len]; omega), tornGo_getD _ _ _ (by omega), getD_rep (by omega)]
      congr 2 <;> omega
    · rw [if_neg (by omega), getD_rep (by omega), getD_app_r _ _ _ (by rw [tornGo_len]; omega), tornGo_len, hl2, getD_rep (by omega)]
/-- Behind an Open the area holds its entries, and is blank behind them. -/
theorem front_open {N fr ln : Nat} {D : DD} {es R : List (List UInt8)} (hc : CalmN N D) (hp : D.pend = []) (hl : 1 ≤ ln) (hfit : fr + ln ≤ N) (ha : areaS D fr ln = secsAll es ++ R) (hR : oneM R = none) (he : ∀ e ∈ es, e.length ≤ 3840) :
    ∃ D', openM D (fr : Int) (ln : Int) = (D', 0) ∧ CalmN N D' ∧ D'.pend = [] ∧ Laid D' fr ln es (ln - total es) ∧ D'.writes ≤ D.writes + ln ∧ openAt D (fr : Int) (ln : Int) = total es ∧ total es ≤ ln ∧ (scanM (areaS D fr ln)).1 = es := by
  have hsc : scanM (areaS D fr ln) = (es, total es) := by rw [ha]; exact scanM_entries he hR
  have hat : openAt D (fr : Int) (ln : Int) = total es := by
    unfold openAt
    simp only [Int.toNat_natCast]
    rw [hsc]
  have hle : total es ≤ ln := by
    have := scanM_le (areaS D fr ln)
    rw [hsc, areaS_len] at this
    exact this
  obtain ⟨D', h1, h2, h3, h4, h5, h6⟩ := open_calm hc hp hl hfit
  rw [hat] at h4
  refine ⟨D', h1, h2, h3, ⟨by omega, fun i hi => ?_⟩, h5, hat, hle, by rw [hsc]⟩
  rw [h4]
  have hl1 := secsAll_len es
  by_cases c : i < total es
  · rw [if_neg (by omega), getD_app_l _ _ _ (by omega), ← getD_app_l (secsAll es) R _ (by omega), ← ha]
    unfold areaS
    rw [List.getD_eq_getElem?_getD, List.getElem?_map, List.getElem?_range hi]
    rfl
  · rw [if_pos (by omega), getD_app_r _ _ _ (by omega), getD_rep (by omega)]
end Go.Proofs.Yticncfkpfpkfoaa
