/- Pins: plain definitions and laws. -/
import Derived.Test.YticncfkpfpkfoaaPackP
import Derived.Test.YticncfkpfpkfoaaCalmN
import Derived.Test.YticncfkpfpkfoaaSTorn
import Derived.Test.YticncfkpfpkfoaaWipe
set_option linter.unusedVariables false
set_option linter.unusedSimpArgs false
namespace Go.Proofs.Yticncfkpfpkfoaa
open Go

structure PinP where
  s : Int
  l : Int
  f : Int
  c : Int
  w : Int
  r : Int
  deriving DecidableEq
def okPin (p : PinP) : Prop := 1 ≤ p.s ∧ p.s ≤ 1099511627776 ∧ 0 ≤ p.l ∧ p.l ≤ 1099511627776 ∧ 0 ≤ p.f ∧ p.f ≤ 1 ∧ 0 ≤ p.w ∧ p.w ≤ 1 ∧ 1 ≤ p.r ∧ p.r ≤ 4096 ∧ 0 ≤ p.c ∧ p.c ≤ p.r
instance (p : PinP) : Decidable (okPin p) := by unfold okPin; infer_instance
def pinNs (p : PinP) : List Int := [p.s, p.l, p.f, p.c, p.w, p.r]
def pinL (p : PinP) : List Value := [i64 p.s, i64 p.l, i64 p.f, i64 p.c, i64 p.w, i64 p.r]
abbrev pinV (p : PinP) : Value := .agg #[i64 p.s, i64 p.l, i64 p.f, i64 p.c, i64 p.w, i64 p.r]
def zPin : PinP := ⟨0, 0, 0, 0, 0, 0⟩
def uPart (n : Nat) : PartP := ⟨117, n, 0, 0, [], false⟩
def pinParts (p : PinP) : List PartP := (pinNs p).map fun n => uPart n.toNat
def pinB (p : PinP) : List UInt8 := encAll (pinParts p)
def K6 : List UInt8 := [117, 117, 117, 117, 117, 117]
def pinOf (l : List Nat) : PinP := ⟨(l.getD 0 0 : Nat), (l.getD 1 0 : Nat), (l.getD 2 0 : Nat), (l.getD 3 0 : Nat), (l.getD 4 0 : Nat), (l.getD 5 0 : Nat)⟩
/-- The pin that bytes are. -/
def readP (B : List UInt8) : Option PinP :=
  if (readM B K6 0).2.1 = 0 ∧ (∀ q ∈ (readM B K6 0).1, q.u ≤ 1099511627776) ∧ okPin (pinOf ((readM B K6 0).1.map (·.u))) then some (pinOf ((readM B K6 0).1.map (·.u))) else none
/-- The pin of a sector. -/
noncomputable def ofM (s : List UInt8) : Option PinP := if isWhole s then readP (pay s) else none
def sideM (k : Int) (o : Option PinP) : Option PinP := match o with | some p => if p.s % 2 = k then some p else none | none => none
/-- The newer of two pins. -/
def newerM : Option PinP → Option PinP → Option PinP
  | some x, some y => if x.s < y.s then some y else some x
  | some x, none => some x
  | none, y => y
noncomputable def getM (a b : List UInt8) : Option PinP := newerM (sideM 0 (ofM a)) (sideM 1 (ofM b))

theorem encP_u (n : Nat) : encP (uPart n) = digits n := by
  unfold encP uPart
  rw [if_pos rfl]
theorem digits6 {n : Nat} (h : n ≤ 1099511627776) : (digits n).length ≤ 6 := digits_len 5 n (by omega)
theorem digits2 {n : Nat} (h : n ≤ 4096) : (digits n).length ≤ 2 := digits_len 1 n (by omega)
theorem digits1 {n : Nat} (h : n ≤ 1) : (digits n).length ≤ 1 := digits_len 0 n (by omega)
theorem pinB_eq (p : PinP) : pinB p = digits p.s.toNat ++ (digits p.l.toNat ++ (digits p.f.toNat ++ (digits p.c.toNat ++ (digits p.w.toNat ++ digits p.r.toNat)))) := by
  unfold pinB pinParts pinNs
  simp only [List.map_cons, List.map_nil, encAll_cons, encP_u, encAll_nil, List.append_nil]
theorem pinB_len {p : PinP} (h : okPin p) : (pinB p).length ≤ 61 := by
  obtain ⟨h1, h2, h3, h4, h5, h6, h7, h8, h9, h10, h11, h12⟩ := h
  rw [pinB_eq]
  simp only [List.length_append]
  have a1 := digits6 (n := p.s.toNat) (by omega)
  have a2 := digits6 (n := p.l.toNat) (by omega)
  have a3 := digits1 (n := p.f.toNat) (by omega)
  have a4 := digits2 (n := p.c.toNat) (by omega)
  have a5 := digits1 (n := p.w.toNat) (by omega)
  have a6 := digits2 (n := p.r.toNat) (by omega)
  omega
theorem pin_back {p : PinP} (h : okPin p) : pinOf ((pinNs p).map Int.toNat) = p := by
  obtain ⟨h1, h2, h3, h4, h5, h6, h7, h8, h9, h10, h11, h12⟩ := h
  obtain ⟨s, l, f, c, w, r⟩ := p
  simp only at *
  simp only [pinOf, pinNs, List.map_cons, List.map_nil, List.getD_cons_zero, List.getD_cons_succ, PinP.mk.injEq]
  omega
theorem plain_u {q : PartP} {n : Nat} (h : plain q = plain (uPart n)) : q.u = n := by
  have hk : q.kind = 117 := by
    have := congrArg PartR.kind h
    simpa [plain, uPart] using this
  have hu := congrArg PartR.u h
  simpa [plain, uPart, hk] using hu
theorem plains_u : ∀ {M : List PartP} {l : List Nat}, M.map plain = (l.map uPart).map plain → M.map (·.u) = l := by
  intro M
  induction M with
  | nil => intro l h; cases l with
    | nil => rfl
    | cons a l => simp at h
  | cons q M ih =>
    intro l h
    cases l with
    | nil => simp at h
    | cons a l =>
      simp only [List.map_cons, List.cons.injEq] at h ⊢
      exact ⟨plain_u h.1, ih h.2⟩
theorem read_pin {p : PinP} (h : okPin p) : readP (pinB p) = some p := by
  have hp := pin_back h
  have hk : (pinParts p).map (·.kind) = K6 := rfl
  have hu : ∀ n ∈ pinNs p, n.toNat ≤ 1099511627776 := by
    obtain ⟨h1, h2, h3, h4, h5, h6, h7, h8, h9, h10, h11, h12⟩ := h
    intro n hn
    simp only [pinNs, List.mem_cons, List.not_mem_nil, or_false] at hn
    omega
  have hok : OkL 0 (pinParts p) := fun q hq => by
    obtain ⟨n, hn, rfl⟩ := List.mem_map.1 hq
    have := hu n hn
    refine ⟨.inl rfl, ⟨?_, ?_, ?_⟩, by simp [uPart], by simp [uPart]⟩
    · show n.toNat < 2 * H63
      rw [H63x2]; omega
    · show -9223372036854775808 ≤ (0 : Int) ∧ (0 : Int) < 9223372036854775808
      omega
    · show 0 < 2 * H63
      rw [H63x2]; omega
  obtain ⟨M, hM, hr⟩ := read_enc (pinParts p) 0 [] [] hok
  rw [hk, List.append_nil] at hr
  simp only [List.length_nil, Nat.lt_irrefl, if_false, List.nil_append] at hr
  have hrM : readM (pinB p) K6 0 = (M, 0, 0) := hr
  have hMu : M.map (·.u) = (pinNs p).map Int.toNat := by
    apply plains_u
    rw [hM]
    unfold pinParts
    rw [List.map_map, List.map_map, List.map_map]
    rfl
  unfold readP
  rw [hrM]
  simp only
  rw [hMu, hp, if_pos]
  refine ⟨trivial, fun q hq => ?_, h⟩
  have : q.u ∈ M.map (·.u) := List.mem_map_of_mem hq
  rw [hMu] at this
  obtain ⟨n, hn, hq2⟩ := List.mem_map.1 this
  have := hu n hn
  omega
theorem readP_ok {B : List UInt8} {p : PinP} (h : readP B = some p) : okPin p := by
  unfold readP at h
  split at h
  · rename_i hc
    simp only [Option.some.injEq] at h
    rw [← h]; exact hc.2.2
  · cases h
theorem ofM_ok {s : List UInt8} {p : PinP} (h : ofM s = some p) : okPin p := by
  unfold ofM at h
  split at h
  · exact readP_ok h
  · cases h
theorem ofM_seal {p : PinP} (h : okPin p) : ofM (sealOf (pinB p)) = some p := by
  obtain ⟨h1, h2⟩ := whole_sealOf (pinB_len h)
  unfold ofM
  rw [if_pos h1, h2]
  exact read_pin h
theorem ofM_bad {s : List UInt8} (h : ¬ isWhole s) : ofM s = none := by unfold ofM; rw [if_neg h]
theorem notWhole_zb : ¬ isWhole (zb 64) := by
  intro h
  have := h.1
  rw [gb_zb] at this
  simp at this

/-! ### Putting -/
theorem newN_calm (n : Nat) : CalmN n (newD n) := ⟨rfl, rfl, by simp [newD], by simp [newD]⟩
theorem newN_view {n i : Nat} (h : i < n) : view (newD n) i = zb 64 := by
  unfold view readD newD
  simp [lastW, h]
theorem syncN {N : Nat} {D : DD} (hc : CalmN N D) : CalmN N (syncD D) ∧ (syncD D).pend = [] ∧ (∀ i, view (syncD D) i = view D i) ∧ (syncD D).writes = D.writes := by
  have hd : ¬ D.down = true := by simp [hc.down]
  unfold syncD
  rw [if_neg hd]
  refine ⟨⟨hc.down, hc.left, by simp [syncF_len', hc.len], by simp⟩, rfl, fun i => ?_, rfl⟩
  unfold view readD
  have := sync_view hc.pend i
  simpa [lastW] using this
def reachM (D : DD) : Int := if D.down = true then 14 else if D.firm.length < 2 then 1 else 0
def putM (p : PinP) (D : DD) : DD × Int :=
  if reachM D ≠ 0 then (D, reachM D) else if ¬ okPin p then (D, 1)
  else if (wipeGo 1 D (p.s % 2) false).2 ≠ 0 then wipeGo 1 D (p.s % 2) false
  else if writeE (wipeGo 1 D (p.s % 2) false).1 (p.s % 2) ≠ 0 then (writeD (wipeGo 1 D (p.s % 2) false).1 (p.s % 2) (sealOf (pinB p)), writeE (wipeGo 1 D (p.s % 2) false).1 (p.s % 2))
  else (syncD (writeD (wipeGo 1 D (p.s % 2) false).1 (p.s % 2) (sealOf (pinB p))), if (writeD (wipeGo 1 D (p.s % 2) false).1 (p.s % 2) (sealOf (pinB p))).down then 14 else 0)
theorem side_nat {p : PinP} (h : okPin p) : ∃ k : Nat, p.s % 2 = (k : Int) ∧ k < 2 := ⟨(p.s % 2).toNat, by have := h.1; omega, by have := h.1; omega⟩
theorem put_calm {N : Nat} {D : DD} {p : PinP} (hc : CalmN N D) (hp : D.pend = []) (hN : 2 ≤ N) (h : okPin p) {k : Nat} (hk : p.s % 2 = (k : Int)) :
    ∃ D', putM p D = (D', 0) ∧ CalmN N D' ∧ D'.pend = [] ∧ (∀ i, view D' i = if i = k then sealOf (pinB p) else view D i) ∧ D'.writes ≤ D.writes + 2 := by
  have hk2 : k < 2 := by have := h.1; omega
  obtain ⟨D1, hw, hc1, hp1, hv1, hw1⟩ := wipe_inN (n := 1) (D := D) (x := k) (so := false) hc (by omega) (fun _ => hp)
  have hr : reachM D = 0 := by unfold reachM; rw [if_neg (by simp [hc.down]), if_neg (by rw [hc.len]; omega)]
  have hc2 := hc1.write (x := k) (by omega) (sealOf (pinB p))
  obtain ⟨s1, s2, s3, s4⟩ := syncN hc2
  refine ⟨_, ?_, s1, s2, fun i => ?_, ?_⟩
  · unfold putM
    rw [if_neg (by simp [hr]), if_neg (by simp [h]), hk, hw]
    simp only
    rw [if_neg (by simp), if_neg (by rw [writeE_calmN hc1 (x := k) (by omega)]; simp), if_neg (by simp [hc2.down])]
  · rw [s3, view_write (hc1.ok (x := k) (by omega)), hv1]
    by_cases hi : i = k
    · subst hi; rw [if_pos rfl, if_pos rfl]
    · rw [if_neg (by omega), if_neg hi, if_neg (by omega)]
  · rw [s4, writes_writeN hc1 (x := k) (by omega), hw1]
    have : cnt (view D) k 1 ≤ 1 := by simp only [cnt]; split <;> omega
    omega
theorem sideM_some {k : Int} {o : Option PinP} {p : PinP} (h : sideM k o = some p) : o = some p ∧ p.s % 2 = k := by
  unfold sideM at h
  split at h
  · split at h
    · rename_i hk; simp only [Option.some.injEq] at h; subst h; exact ⟨rfl, hk⟩
    · cases h
  · cases h
end Go.Proofs.Yticncfkpfpkfoaa
