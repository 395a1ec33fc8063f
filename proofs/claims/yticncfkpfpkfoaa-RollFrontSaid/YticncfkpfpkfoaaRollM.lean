/- Entries as sectors: plain definitions. -/
import Derived.Test.YticncfkpfpkfoaaLaw18
set_option linter.unusedVariables false
set_option linter.unusedSimpArgs false
namespace Go.Proofs.Yticncfkpfpkfoaa
open Go

/-- How many sectors an entry of n bytes takes. -/
def need (n : Nat) : Nat := max ((n + 59) / 60) 1
theorem need_pos (n : Nat) : 1 ≤ need n := by unfold need; omega
/-- A part of an entry, with how many come behind it. -/
def partS (b : List UInt8) (n i : Nat) : List UInt8 := UInt8.ofNat (n - 1 - i) :: (b.drop (60 * i)).take 60
def sectorsM (b : List UInt8) : List (List UInt8) := (List.range (need b.length)).map fun i => sealOf (partS b (need b.length) i)
theorem sectorsM_len (b : List UInt8) : (sectorsM b).length = need b.length := by simp [sectorsM]

def leftOf (s : List UInt8) : Nat := (gb (pay s) 0).toNat
def firstOf (n first : Nat) (s : List UInt8) : Nat := if n = 0 then leftOf s else first
def badP (n first : Nat) (s : List UInt8) : Prop := (leftOf s : Int) ≠ (first : Int) - n ∨ 63 < leftOf s ∨ (0 < leftOf s ∧ (pay s).length ≠ 61) ∨ (0 < n ∧ leftOf s = 0 ∧ (pay s).length = 1)
instance (n first : Nat) (s : List UInt8) : Decidable (badP n first s) := by unfold badP; infer_instance
/-- The entry that sectors begin with, as the code finds it. -/
noncomputable def oneGo : List (List UInt8) → Nat → Nat → List UInt8 → Option (List UInt8 × Nat)
  | [], _, _, _ => none
  | s :: r, n, first, out =>
    if isWhole s ∧ 1 ≤ (pay s).length then
      if badP n (firstOf n first s) s then none
      else if leftOf s = 0 then some (out ++ (pay s).drop 1, n + 1)
      else oneGo r (n + 1) (firstOf n first s) (out ++ (pay s).drop 1)
    else none
noncomputable def oneM (S : List (List UInt8)) : Option (List UInt8 × Nat) := oneGo S 0 0 []
theorem oneGo_pos : ∀ (S : List (List UInt8)) (n first : Nat) (out b : List UInt8) (k : Nat), oneGo S n first out = some (b, k) → n < k ∧ k ≤ n + S.length := by
  intro S
  induction S with
  | nil => intro n first out b k h; simp [oneGo] at h
  | cons s r ih =>
    intro n first out b k h
    rw [oneGo] at h
    split at h
    · split at h
      · cases h
      · split at h
        · simp only [Option.some.injEq, Prod.mk.injEq] at h
          obtain ⟨_, rfl⟩ := h
          simp
        · obtain ⟨h1, h2⟩ := ih _ _ _ _ _ h
          simp; omega
    · cases h
/-- The entries that sectors begin with. -/
noncomputable def scanGo : Nat → List (List UInt8) → Nat → List (List UInt8) × Nat
  | 0, _, at_ => ([], at_)
  | f + 1, S, at_ => match oneM S with
    | none => ([], at_)
    | some (b, n) => (b :: (scanGo f (S.drop n) (at_ + n)).1, (scanGo f (S.drop n) (at_ + n)).2)
noncomputable def scanM (S : List (List UInt8)) : List (List UInt8) × Nat := scanGo S.length S 0
theorem scanGo_none {S : List (List UInt8)} (h : oneM S = none) (f at_ : Nat) : scanGo f S at_ = ([], at_) := by
  cases f with
  | zero => rfl
  | succ f => rw [scanGo, h]
theorem scanGo_some {S : List (List UInt8)} {b : List UInt8} {n : Nat} (h : oneM S = some (b, n)) {f at_ : Nat} (hf : S.length ≤ f) :
    ∃ f', f = f' + 1 ∧ (S.drop n).length ≤ f' ∧ scanGo f S at_ = (b :: (scanGo f' (S.drop n) (at_ + n)).1, (scanGo f' (S.drop n) (at_ + n)).2) := by
  obtain ⟨h1, h2⟩ := oneGo_pos S 0 0 [] b n h
  cases f with
  | zero => omega
  | succ f => exact ⟨f, rfl, by simp; omega, by rw [scanGo, h]⟩
theorem oneM_nil : oneM [] = none := rfl
end Go.Proofs.Yticncfkpfpkfoaa
