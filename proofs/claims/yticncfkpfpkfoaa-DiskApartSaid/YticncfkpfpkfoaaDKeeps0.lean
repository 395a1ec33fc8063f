/- DiskKeeps: the plain law. -/
import Derived.Test.YticncfkpfpkfoaaBig
import Derived.Test.YticncfkpfpkfoaaSWipes0
set_option linter.unusedVariables false
set_option linter.unusedSimpArgs false
namespace Go.Proofs.Yticncfkpfpkfoaa
open Go

/-- A disk of N sectors that is up, and stays up. -/
structure Up (N : Nat) (D : DD) : Prop where
  down : D.down = false
  left : D.left = 0
  len : D.firm.length = N
  pend : ∀ p ∈ D.pend, 0 ≤ p.1 ∧ p.1 < D.firm.length
theorem Up.ok {N : Nat} {D : DD} (h : Up N D) {x : Int} (h0 : 0 ≤ x) (h1 : x < N) : okE D x = 0 := by
  unfold okE; rw [h.down, h.len]; simp; omega
theorem Up.not_ok {N : Nat} {D : DD} (h : Up N D) {x : Int} (h1 : ¬ (0 ≤ x ∧ x < N)) : okE D x = 1 := by
  unfold okE; rw [h.down, h.len]; simp; omega
theorem Up.write_out {N : Nat} {D : DD} (h : Up N D) {x : Int} (h1 : ¬ (0 ≤ x ∧ x < N)) (s : List UInt8) : writeD D x s = D := by
  unfold writeD; rw [h.not_ok h1]; rfl
theorem Up.write_in {N : Nat} {D : DD} (h : Up N D) {x : Int} (h1 : 0 ≤ x ∧ x < N) (s : List UInt8) : writeD D x s = { D with pend := D.pend ++ [(x, s)], writes := D.writes + 1 } := by
  unfold writeD; rw [if_pos (h.ok h1.1 h1.2), h.left]
  obtain ⟨f, p, l, d, wr⟩ := D
  have h1 := h.down
  have h2 := h.left
  simp only at h1 h2
  subst h1 h2
  rfl
theorem Up.write {N : Nat} {D : DD} (h : Up N D) (x : Int) (s : List UInt8) : Up N (writeD D x s) := by
  by_cases h1 : 0 ≤ x ∧ x < N
  · rw [h.write_in h1]
    refine ⟨h.down, h.left, h.len, fun p hp => ?_⟩
    simp only [List.mem_append, List.mem_singleton] at hp
    rcases hp with hp | rfl
    · exact h.pend p hp
    · simp only; rw [h.len]; exact h1
  · rw [h.write_out h1]; exact h
theorem Up.sync {N : Nat} {D : DD} (h : Up N D) : Up N (syncD D) ∧ (syncD D).pend = [] ∧ (syncD D).writes = D.writes := by
  unfold syncD; rw [if_neg (by rw [h.down]; simp)]
  exact ⟨⟨h.down, h.left, by simp [syncF_len', h.len], by simp⟩, rfl, rfl⟩
theorem up_new {N : Nat} : Up N (newD N) := ⟨rfl, rfl, by simp [newD], by simp [newD]⟩

/-- The writes of a row of operations, and of no others. -/
def putOne (D : DD) (o : OpM) : DD := if o.kind = 0 then writeD D o.n (secOf o.fill) else D
def putD (D : DD) (L : List (OpM × Value)) (j : Nat) : DD := (L.take j).foldl (fun D p => putOne D p.1) D
theorem putD_zero (D : DD) (L : List (OpM × Value)) : putD D L 0 = D := rfl
theorem putD_succ {D : DD} {L : List (OpM × Value)} {j : Nat} {p : OpM × Value} (h : L[j]? = some p) : putD D L (j + 1) = putOne (putD D L j) p.1 := by
  unfold putD
  rw [List.take_add_one, h, List.foldl_append]; rfl
theorem putOne_props {N : Nat} {D : DD} {o : OpM} (h : Up N D) : Up N (putOne D o) ∧ (putOne D o).pend.length ≤ D.pend.length + 1 ∧ D.writes ≤ (putOne D o).writes ∧ (putOne D o).writes ≤ D.writes + 1 ∧ (putOne D o).firm = D.firm ∧
    ∀ p ∈ (putOne D o).pend, p ∈ D.pend ∨ (o.kind = 0 ∧ 0 ≤ o.n ∧ o.n < N ∧ p.1 = o.n) := by
  unfold putOne
  by_cases hk : o.kind = 0
  · rw [if_pos hk]
    by_cases h1 : 0 ≤ o.n ∧ o.n < N
    · refine ⟨h.write _ _, ?_⟩
      rw [h.write_in h1]
      refine ⟨by simp, by simp; omega, by simp, rfl, fun p hp => ?_⟩
      simp only [List.mem_append, List.mem_singleton] at hp
      rcases hp with hp | rfl
      · exact .inl hp
      · exact .inr ⟨hk, h1.1, h1.2, rfl⟩
    · rw [h.write_out h1]
      exact ⟨h, by omega, by omega, by omega, rfl, fun p hp => .inl hp⟩
  · rw [if_neg hk]
    exact ⟨h, by omega, by omega, by omega, rfl, fun p hp => .inl hp⟩
/-- Which sectors were touched. -/
def touch (L : List (OpM × Value)) (j : Nat) (i : Nat) : Prop := ∃ m p, m < j ∧ L[m]? = some p ∧ p.1.kind = 0 ∧ p.1.n = i
theorem putD_props {N : Nat} {D : DD} {L : List (OpM × Value)} (h : Up N D) : ∀ {j : Nat}, j ≤ L.length → Up N (putD D L j) ∧ (putD D L j).pend.length ≤ D.pend.length + j ∧ D.writes ≤ (putD D L j).writes ∧ (putD D L j).writes ≤ D.writes + j ∧
    (putD D L j).firm = D.firm ∧ ∀ p ∈ (putD D L j).pend, p ∈ D.pend ∨ touch L j p.1.toNat := by
  intro j
  induction j with
  | zero => intro _; exact ⟨h, by simp [putD_zero], by simp [putD_zero], by simp [putD_zero], rfl, fun p hp => .inl hp⟩
  | succ j ih =>
    intro hj
    obtain ⟨h1, h2, h3, h4, h5, h6⟩ := ih (by omega)
    obtain ⟨p, hp⟩ : ∃ p, L[j]? = some p := ⟨_, List.getElem?_eq_getElem (by omega)⟩
    rw [putD_succ hp]
    obtain ⟨k1, k2, k3, k4, k5, k6⟩ := putOne_props (o := p.1) h1
    refine ⟨k1, by omega, by omega, by omega, by rw [k5, h5], fun q hq => ?_⟩
    rcases k6 q hq with hq | ⟨a, b, c, d⟩
    · rcases h6 q hq with hq | ⟨m, r, hm, hr⟩
      · exact .inl hq
      · exact .inr ⟨m, r, by omega, hr⟩
    · exact .inr ⟨j, p, by omega, hp, a, by rw [d]; omega⟩

theorem crashF_len (kept : List Int) : ∀ (f : List (List UInt8)) (k : Nat) (L : List (Int × List UInt8)), (crashF kept f k L).length = f.length := by
  intro f k L
  induction L generalizing f k with
  | nil => rfl
  | cons p L ih => rw [crashF, ih]; simp
theorem crashF_keep (kept : List Int) {i : Nat} : ∀ (f : List (List UInt8)) (k : Nat) (L : List (Int × List UInt8)), (∀ p ∈ L, p.1.toNat ≠ i) → (crashF kept f k L).getD i [] = f.getD i [] := by
  intro f k L
  induction L generalizing f k with
  | nil => intro _; rfl
  | cons p L ih =>
    intro h
    rw [crashF, ih _ _ (fun q hq => h q (by simp [hq]))]
    have := h p (by simp)
    rw [List.getD_eq_getElem?_getD, List.getElem?_set, if_neg this, ← List.getD_eq_getElem?_getD]
theorem Up.crash {N : Nat} {D : DD} (h : Up N D) (kept : List Int) : Up N (crashD D kept) ∧ (crashD D kept).pend = [] :=
  ⟨⟨rfl, rfl, by simp [crashD, crashF_len, h.len], by simp [crashD]⟩, rfl⟩
theorem view_firm {D : DD} (h : D.pend = []) (i : Nat) : view D i = D.firm.getD i [] := by
  unfold view readD; rw [h]; simp [lastW]
theorem keeps {N : Nat} {D : DD} {L : List (OpM × Value)} {kept : List Int} (h : Up N D) (hp : D.pend = []) {i : Nat} (hi : ¬ touch L L.length i) : view (crashD (putD D L L.length) kept) i = view D i := by
  obtain ⟨h1, h2, h3, h4, h5, h6⟩ := putD_props (L := L) h (Nat.le_refl _)
  rw [view_firm (h1.crash kept).2, view_firm hp]
  unfold crashD
  simp only
  rw [crashF_keep, h5]
  intro p hpm he
  rcases h6 p hpm with h | h
  · rw [hp] at h; cases h
  · rw [he] at h; exact hi h
end Go.Proofs.Yticncfkpfpkfoaa
