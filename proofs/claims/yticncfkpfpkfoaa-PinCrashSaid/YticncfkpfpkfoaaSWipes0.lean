/- SealWipes: the plain law. -/
import Derived.Test.YticncfkpfpkfoaaWipe
set_option linter.unusedVariables false
set_option linter.unusedSimpArgs false
namespace Go.Proofs.Yticncfkpfpkfoaa
open Go

theorem syncF_snoc' (f : List (List UInt8)) (L : List (Int × List UInt8)) (p : Int × List UInt8) : syncF f (L ++ [p]) = (syncF f L).set p.1.toNat p.2 := syncF_snoc f L p
theorem syncF_len' (f : List (List UInt8)) (L : List (Int × List UInt8)) : (syncF f L).length = f.length := syncF_length f L
/-- What a read tells, in one form. -/
def view (D : DD) (i : Nat) : List UInt8 := readD D i
theorem rev_ind {α : Type} {M : List α → Prop} (h0 : M []) (h1 : ∀ L a, M L → M (L ++ [a])) (L : List α) : M L := by
  have : ∀ K : List α, M K.reverse := by
    intro K
    induction K with
    | nil => exact h0
    | cons a K ih => rw [List.reverse_cons]; exact h1 _ _ ih
  simpa using this L.reverse
theorem sync_view {f : List (List UInt8)} {L : List (Int × List UInt8)} (h : ∀ p ∈ L, 0 ≤ p.1 ∧ p.1 < (f.length : Int)) (i : Nat) : (syncF f L).getD i [] = (lastW L i).getD (f.getD i []) := by
  revert h
  refine rev_ind (M := fun L => (∀ p ∈ L, 0 ≤ p.1 ∧ p.1 < (f.length : Int)) → (syncF f L).getD i [] = (lastW L i).getD (f.getD i [])) ?_ ?_ L
  · intro _; rfl
  · intro L p ih h
    have ih := ih fun q hq => h q (by simp [hq])
    have hp := h p (by simp)
    rw [syncF_snoc', lastW_snoc]
    by_cases hx : p.1 = i
    · rw [if_pos hx]
      have : p.1.toNat = i := by omega
      rw [this, List.getD_eq_getElem?_getD, List.getElem?_set]
      rw [if_pos rfl, if_pos (by rw [syncF_len']; omega)]; rfl
    · rw [if_neg hx, ← ih]
      have : ¬ p.1.toNat = i := by omega
      rw [List.getD_eq_getElem?_getD, List.getElem?_set, if_neg this, ← List.getD_eq_getElem?_getD]
theorem view_write {D : DD} {x : Int} {s : List UInt8} (h : okE D x = 0) (i : Nat) : view (writeD D x s) i = if x = i then s else view D i := by
  unfold view readD writeD
  rw [if_pos h]
  simp only
  rw [lastW_snoc]
  by_cases hx : x = i
  · simp [hx]
  · simp [hx]
/-- How many of n from x on are not blank. -/
def cnt (v : Nat → List UInt8) : Nat → Nat → Nat
  | _, 0 => 0
  | x, n + 1 => cnt v x n + (if v (x + n) = zb 64 then 0 else 1)
theorem cnt_front (v : Nat → List UInt8) (x n : Nat) : cnt v x (n + 1) = (if v x = zb 64 then 0 else 1) + cnt v (x + 1) n := by
  induction n with
  | zero => simp [cnt]
  | succ n ih =>
    rw [cnt, ih, cnt]
    rw [show x + (n + 1) = x + 1 + n by omega]
    omega
theorem cnt_congr {v v' : Nat → List UInt8} {x n : Nat} (h : ∀ i, x ≤ i → i < x + n → v i = v' i) : cnt v x n = cnt v' x n := by
  induction n with
  | zero => rfl
  | succ n ih => rw [cnt, cnt, ih (fun i a b => h i a (by omega)), h (x + n) (by omega) (by omega)]

/-- A disk that is up, and stays up. -/
structure Calm (D : DD) : Prop where
  down : D.down = false
  left : D.left = 0
  len : D.firm.length = 16
  pend : ∀ p ∈ D.pend, 0 ≤ p.1 ∧ p.1 < D.firm.length
theorem Calm.ok {D : DD} (h : Calm D) {x : Nat} (hx : x < 16) : okE D x = 0 := by
  unfold okE; rw [h.down, h.len]; simp; omega
theorem Calm.write {D : DD} (h : Calm D) {x : Nat} (hx : x < 16) (s : List UInt8) : Calm (writeD D x s) := by
  unfold writeD
  rw [if_pos (h.ok hx)]
  refine ⟨by simp [h.left], by simp [h.left], h.len, fun p hp => ?_⟩
  simp only [List.mem_append, List.mem_singleton] at hp
  rcases hp with hp | rfl
  · exact h.pend p hp
  · simp only; rw [h.len]; omega
theorem writes_write {D : DD} (h : Calm D) {x : Nat} (hx : x < 16) (s : List UInt8) : (writeD D x s).writes = D.writes + 1 := by
  unfold writeD; rw [if_pos (h.ok hx)]
theorem writeE_calm {D : DD} (h : Calm D) {x : Nat} (hx : x < 16) : writeE D x = 0 := by
  unfold writeE; rw [if_pos (h.ok hx), h.left]; rfl

theorem wipe_in {n : Nat} : ∀ {D : DD} {x : Nat} {so : Bool}, Calm D → x + n ≤ 16 → (so = false → D.pend = []) →
    ∃ D', wipeGo n D x so = (D', 0) ∧ Calm D' ∧ D'.pend = [] ∧ (∀ i, view D' i = if x ≤ i ∧ i < x + n then zb 64 else view D i) ∧ D'.writes = D.writes + cnt (view D) x n := by
  induction n with
  | zero =>
    intro D x so hc hx hp
    cases so with
    | false =>
      refine ⟨D, rfl, hc, hp rfl, fun i => ?_, by simp [cnt]⟩
      rw [if_neg (by omega)]
    | true =>
      refine ⟨syncD D, by simp [wipeGo, hc.down], ?_, by simp [syncD, hc.down], fun i => ?_, by simp [syncD, hc.down, cnt]⟩
      · unfold syncD; rw [if_neg (by rw [hc.down]; simp)]
        exact ⟨hc.down, hc.left, by simp [syncF_len', hc.len], by simp⟩
      · rw [if_neg (by omega)]
        unfold view readD syncD
        rw [if_neg (by rw [hc.down]; simp)]
        simp only
        have := sync_view hc.pend i
        simpa [lastW] using this
  | succ n ih =>
    intro D x so hc hx hp
    rw [wipeGo, if_pos (hc.ok (by omega))]
    by_cases hz : readD D x = zb 64
    · rw [if_pos hz]
      obtain ⟨D', h1, h2, h2', h3, h4⟩ := ih (D := D) (x := x + 1) (so := so) hc (by omega) hp
      refine ⟨D', by simpa using h1, h2, h2', fun i => ?_, ?_⟩
      · rw [h3]
        by_cases hi : i = x
        · subst hi
          rw [if_neg (by omega), if_pos (by omega)]; exact hz
        · by_cases hr : x ≤ i ∧ i < x + (n + 1)
          · rw [if_pos hr, if_pos (by omega)]
          · rw [if_neg hr, if_neg (by omega)]
      · rw [h4, cnt_front, if_pos (show view D x = zb 64 from hz)]; simp
    · rw [if_neg hz, if_pos (writeE_calm hc (by omega))]
      obtain ⟨D', h1, h2, h2', h3, h4⟩ := ih (D := writeD D x (zb 64)) (x := x + 1) (so := true) (hc.write (by omega) _) (by omega) (by simp)
      refine ⟨D', by simpa using h1, h2, h2', fun i => ?_, ?_⟩
      · rw [h3, view_write (hc.ok (by omega))]
        by_cases hi : i = x
        · subst hi
          rw [if_neg (by omega), if_pos rfl, if_pos (by omega)]
        · by_cases hr : x ≤ i ∧ i < x + (n + 1)
          · rw [if_pos hr, if_pos (by omega)]
          · rw [if_neg hr, if_neg (by omega), if_neg (by omega)]
      · rw [h4, writes_write hc (by omega), cnt_front, if_neg (show ¬ view D x = zb 64 from hz), cnt_congr (v' := view D) (fun i a b => by rw [view_write (hc.ok (by omega)), if_neg (by omega)])]
        omega
theorem wipe_out {n : Nat} : ∀ {D : DD} {x : Int} {so : Bool}, Calm D → (0 < n) → (x < 0 ∨ 16 < x + n) → (wipeGo n D x so).2 = 1 := by
  induction n with
  | zero => intro D x so _ h; omega
  | succ n ih =>
    intro D x so hc _ hx
    by_cases hin : 0 ≤ x ∧ x < 16
    · obtain ⟨k, rfl⟩ : ∃ k : Nat, x = k := ⟨x.toNat, by omega⟩
      rw [wipeGo, if_pos (hc.ok (by omega)), if_pos (writeE_calm hc (by omega))]
      split
      · exact ih hc (by omega) (by omega)
      · exact ih (hc.write (by omega) _) (by omega) (by omega)
    · have : okE D x = 1 := by
        unfold okE; rw [hc.down, hc.len]; simp; omega
      rw [wipeGo, this]; rfl

/-- What is filled in. -/
def oldS (l : List UInt8) (i : Nat) : List UInt8 := if i < l.length then (zb 64).set 5 (gb l i) else zb 64
def fillD (l : List UInt8) : Nat → DD
  | 0 => newD 16
  | j + 1 => if 0 < gb l j then writeD (fillD l j) j ((zb 64).set 5 (gb l j)) else fillD l j
theorem set5_zero {x : UInt8} (h : ¬ 0 < x) : (zb 64).set 5 x = zb 64 := by
  have : x = 0 := by
    apply UInt8.toNat_inj.1
    have h2 : ¬ (0 : UInt8).toNat < x.toNat := fun h3 => h (UInt8.lt_iff_toNat_lt.2 h3)
    simp at h2 ⊢
    omega
  subst this
  rfl
theorem fillD_calm {l : List UInt8} {j : Nat} (h : j ≤ 16) (hl : j ≤ l.length) : Calm (fillD l j) ∧ (fillD l j).pend.length ≤ j ∧ 0 ≤ (fillD l j).writes ∧ (fillD l j).writes ≤ j ∧ ∀ i, i < 16 → view (fillD l j) i = if i < j then oldS l i else zb 64 := by
  induction j with
  | zero =>
    refine ⟨⟨rfl, rfl, by simp [fillD, newD], by simp [fillD, newD]⟩, by simp [fillD, newD], by simp [fillD, newD], by simp [fillD, newD], fun i hi => ?_⟩
    rw [if_neg (by omega)]
    simp only [view, readD, lastW, fillD, newD, List.foldl_nil, Option.getD_none, Int.toNat_natCast, List.getD_eq_getElem?_getD, List.getElem?_replicate, hi, if_true, Option.getD_some]
  | succ j ih =>
    obtain ⟨h1, h2, h3, h4, h5⟩ := ih (by omega) (by omega)
    rw [fillD]
    by_cases h0 : 0 < gb l j
    · rw [if_pos h0]
      refine ⟨h1.write (by omega) _, ?_, ?_, ?_, fun i hi => ?_⟩
      · unfold writeD; rw [if_pos (h1.ok (by omega))]; simp; omega
      · rw [writes_write h1 (by omega)]; omega
      · rw [writes_write h1 (by omega)]; omega
      · rw [view_write (h1.ok (by omega)), h5 i hi]
        by_cases hij : i = j
        · subst hij
          rw [if_pos rfl, if_pos (by omega), oldS, if_pos (by omega)]
        · rw [if_neg (by omega)]
          by_cases hlt : i < j
          · rw [if_pos hlt, if_pos (by omega)]
          · rw [if_neg hlt, if_neg (by omega)]
    · rw [if_neg h0]
      refine ⟨h1, by omega, h3, by omega, fun i hi => ?_⟩
      rw [h5 i hi]
      by_cases hij : i = j
      · subst hij
        rw [if_neg (by omega), if_pos (by omega), oldS, if_pos (by omega), set5_zero h0]
      · by_cases hlt : i < j
        · rw [if_pos hlt, if_pos (by omega)]
        · rw [if_neg hlt, if_neg (by omega)]
end Go.Proofs.Yticncfkpfpkfoaa
