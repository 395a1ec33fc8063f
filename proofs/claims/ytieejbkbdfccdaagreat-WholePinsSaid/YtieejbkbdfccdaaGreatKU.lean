/- Pins: plain definitions and laws. -/
import Derived.Test.YtieejbkbdfccdaaGreatKM
import Derived.Test.YtieejbkbdfccdaaGreatKS
import Derived.Test.YtieejbkbdfccdaaGreatKQ
import Derived.Test.YtieejbkbdfccdaaGreatSim
import Derived.Test.YtieejbkbdfccdaaGreatKI
import Derived.Test.YtieejbkbdfccdaaGreatKL
set_option linter.unusedVariables false
set_option linter.unusedSimpArgs false
namespace Go.Proofs.YtieejbkbdfccdaaGreat
open Go
structure PinP where
  s : Int
  l : Int
  f : Int
  c : Int
  w : Int
  r : Int
  deriving DecidableEq
def okPin (p : PinP) : Prop := 1 ≤ p.s ∧ p.s ≤ 1099511627776 ∧ 0 ≤ p.l ∧ p.l ≤ 1099511627776 ∧ 0 ≤ p.f ∧ p.f ≤ 1 ∧ 0 ≤ p.w ∧ p.w ≤ 1 ∧ 1 ≤ p.r ∧ p.r ≤ 4096 ∧ 0 ≤ p.c ∧ p.c ≤ p.r
instance (p : PinP) : Decidable (okPin p) := by unfold okPin; infer_instance
def pinNs (p : PinP) : List Int := [p.s, p.l, p.f, p.c, p.w, p.r]
def pinL (p : PinP) : List Value := [i64 p.s, i64 p.l, i64 p.f, i64 p.c, i64 p.w, i64 p.r]
abbrev pinV (p : PinP) : Value := .agg #[i64 p.s, i64 p.l, i64 p.f, i64 p.c, i64 p.w, i64 p.r]
def zPin : PinP := ⟨0, 0, 0, 0, 0, 0⟩
def uPart (n : Nat) : PartP := ⟨117, n, 0, 0, [], false⟩
def pinParts (p : PinP) : List PartP := (pinNs p).map fun n => uPart n.toNat
def pinB (p : PinP) : List UInt8 := encAll (pinParts p)
def K6 : List UInt8 := [117, 117, 117, 117, 117, 117]
def pinOf (l : List Nat) : PinP := ⟨(l.getD 0 0 : Nat), (l.getD 1 0 : Nat), (l.getD 2 0 : Nat), (l.getD 3 0 : Nat), (l.getD 4 0 : Nat), (l.getD 5 0 : Nat)⟩
/-- The pin that bytes are. -/
def readP (B : List UInt8) : Option PinP :=
  if (readM B K6 0).2.1 = 0 ∧ (∀ q ∈ (readM B K6 0).1, q.u ≤ 1099511627776) ∧ okPin (pinOf ((readM B K6 0).1.map (·.u))) then some (pinOf ((readM B K6 0).1.map (·.u))) else none
/-- The pin of a sector. -/
noncomputable def ofM (s : List UInt8) : Option PinP := if isWhole s then readP (pay s) else none
def sideM (k : Int) (o : Option PinP) : Option PinP := match o with | some p => if p.s % 2 = k then some p else none | none => none
/-- The newer of two pins. -/
def newerM : Option PinP → Option PinP → Option PinP
  | some x, some y => if x.s < y.s then some y else some x
  | some x, none => some x
  | none, y => y
noncomputable def getM (a b : List UInt8) : Option PinP := newerM (sideM 0 (ofM a)) (sideM 1 (ofM b))
theorem encP_u (n : Nat) : encP (uPart n) = digits n := by
  unfold encP uPart
  rw [if_pos rfl]
theorem digits6 {n : Nat} (h : n ≤ 1099511627776) : (digits n).length ≤ 6 := digits_len 5 n (by omega)
theorem digits2 {n : Nat} (h : n ≤ 4096) : (digits n).length ≤ 2 := digits_len 1 n (by omega)
theorem digits1 {n : Nat} (h : n ≤ 1) : (digits n).length ≤ 1 := digits_len 0 n (by omega)
theorem pinB_eq (p : PinP) : pinB p = digits p.s.toNat ++ (digits p.l.toNat ++ (digits p.f.toNat ++ (digits p.c.toNat ++ (digits p.w.toNat ++ digits p.r.toNat)))) := by
  unfold pinB pinParts pinNs
  simp only [List.map_cons, List.map_nil, encAll_cons, encP_u, encAll_nil, List.append_nil]
theorem pinB_len {p : PinP} (h : okPin p) : (pinB p).length ≤ 61 := by
  obtain ⟨h1, h2, h3, h4, h5, h6, h7, h8, h9, h10, h11, h12⟩ := h
  rw [pinB_eq]
  simp only [List.length_append]
  have a1 := digits6 (n := p.s.toNat) (by omega)
  have a2 := digits6 (n := p.l.toNat) (by omega)
  have a3 := digits1 (n := p.f.toNat) (by omega)
  have a4 := digits2 (n := p.c.toNat) (by omega)
  have a5 := digits1 (n := p.w.toNat) (by omega)
  have a6 := digits2 (n := p.r.toNat) (by omega)
  omega
theorem pin_back {p : PinP} (h : okPin p) : pinOf ((pinNs p).map Int.toNat) = p := by
  obtain ⟨h1, h2, h3, h4, h5, h6, h7, h8, h9, h10, h11, h12⟩ := h
  obtain ⟨s, l, f, c, w, r⟩ := p
  simp only at *
  simp only [pinOf, pinNs, List.map_cons, List.map_nil, List.getD_cons_zero, List.getD_cons_succ, PinP.mk.injEq]
  omega
theorem plain_u {q : PartP} {n : Nat} (h : plain q = plain (uPart n)) : q.u = n := by
  have hk : q.kind = 117 := by
    have := congrArg PartR.kind h
    simpa [plain, uPart] using this
  have hu := congrArg PartR.u h
  simpa [plain, uPart, hk] using hu
theorem plains_u : ∀ {M : List PartP} {l : List Nat}, M.map plain = (l.map uPart).map plain → M.map (·.u) = l := by
  intro M
  induction M with
  | nil => intro l h; cases l with
    | nil => rfl
    | cons a l => simp at h
  | cons q M ih =>
    intro l h
    cases l with
    | nil => simp at h
    | cons a l =>
      simp only [List.map_cons, List.cons.injEq] at h ⊢
      exact ⟨plain_u h.1, ih h.2⟩
theorem read_pin {p : PinP} (h : okPin p) : readP (pinB p) = some p := by
  have hp := pin_back h
  have hk : (pinParts p).map (·.kind) = K6 := rfl
  have hu : ∀ n ∈ pinNs p, n.toNat ≤ 1099511627776 := by
    obtain ⟨h1, h2, h3, h4, h5, h6, h7, h8, h9, h10, h11, h12⟩ := h
    intro n hn
    simp only [pinNs, List.mem_cons, List.not_mem_nil, or_false] at hn
    omega
  have hok : OkL 0 (pinParts p) := fun q hq => by
    obtain ⟨n, hn, rfl⟩ := List.mem_map.1 hq
    have := hu n hn
    refine ⟨.inl rfl, ⟨?_, ?_, ?_⟩, by simp [uPart], by simp [uPart]⟩
    · show n.toNat < 2 * H63
      rw [H63x2]; omega
    · show -9223372036854775808 ≤ (0 : Int) ∧ (0 : Int) < 9223372036854775808
      omega
    · show 0 < 2 * H63
      rw [H63x2]; omega
  obtain ⟨M, hM, hr⟩ := read_enc (pinParts p) 0 [] [] hok
  rw [hk, List.append_nil] at hr
  simp only [List.length_nil, Nat.lt_irrefl, if_false, List.nil_append] at hr
  have hrM : readM (pinB p) K6 0 = (M, 0, 0) := hr
  have hMu : M.map (·.u) = (pinNs p).map Int.toNat := by
    apply plains_u
    rw [hM]
    unfold pinParts
    rw [List.map_map, List.map_map, List.map_map]
    rfl
  unfold readP
  rw [hrM]
  simp only
  rw [hMu, hp, if_pos]
  refine ⟨trivial, fun q hq => ?_, h⟩
  have : q.u ∈ M.map (·.u) := List.mem_map_of_mem hq
  rw [hMu] at this
  obtain ⟨n, hn, hq2⟩ := List.mem_map.1 this
  have := hu n hn
  omega
theorem readP_ok {B : List UInt8} {p : PinP} (h : readP B = some p) : okPin p := by
  unfold readP at h
  split at h
  · rename_i hc
    simp only [Option.some.injEq] at h
    rw [← h]; exact hc.2.2
  · cases h
theorem ofM_ok {s : List UInt8} {p : PinP} (h : ofM s = some p) : okPin p := by
  unfold ofM at h
  split at h
  · exact readP_ok h
  · cases h
theorem ofM_seal {p : PinP} (h : okPin p) : ofM (sealOf (pinB p)) = some p := by
  obtain ⟨h1, h2⟩ := whole_sealOf (pinB_len h)
  unfold ofM
  rw [if_pos h1, h2]
  exact read_pin h
theorem ofM_bad {s : List UInt8} (h : ¬ isWhole s) : ofM s = none := by unfold ofM; rw [if_neg h]
theorem notWhole_zb : ¬ isWhole (zb 64) := by
  intro h
  have := h.1
  rw [gb_zb] at this
  simp at this
/-! ### Putting -/
theorem syncN {N : Nat} {D : DD} (hc : CalmN N D) : CalmN N (syncD D) ∧ (syncD D).pend = [] ∧ (∀ i, view (syncD D) i = view D i) ∧ (syncD D).writes = D.writes := by
  have hd : ¬ D.down = true := by simp [hc.down]
  unfold syncD
  rw [if_neg hd]
  refine ⟨⟨hc.down, hc.left, by simp [syncF_len', hc.len], by simp⟩, rfl, fun i => ?_, rfl⟩
  unfold view readD
  have := sync_view hc.pend i
  simpa [lastW] using this
def reachM (D : DD) : Int := if D.down = true then 14 else if D.firm.length < 2 then 1 else 0
def putM (p : PinP) (D : DD) : DD × Int :=
  if reachM D ≠ 0 then (D, reachM D) else if ¬ okPin p then (D, 1)
  else if (wipeGo 1 D (p.s % 2) false).2 ≠ 0 then wipeGo 1 D (p.s % 2) false
  else if writeE (wipeGo 1 D (p.s % 2) false).1 (p.s % 2) ≠ 0 then (writeD (wipeGo 1 D (p.s % 2) false).1 (p.s % 2) (sealOf (pinB p)), writeE (wipeGo 1 D (p.s % 2) false).1 (p.s % 2))
  else (syncD (writeD (wipeGo 1 D (p.s % 2) false).1 (p.s % 2) (sealOf (pinB p))), if (writeD (wipeGo 1 D (p.s % 2) false).1 (p.s % 2) (sealOf (pinB p))).down then 14 else 0)
theorem side_nat {p : PinP} (h : okPin p) : ∃ k : Nat, p.s % 2 = (k : Int) ∧ k < 2 := ⟨(p.s % 2).toNat, by have := h.1; omega, by have := h.1; omega⟩
theorem put_calm {N : Nat} {D : DD} {p : PinP} (hc : CalmN N D) (hp : D.pend = []) (hN : 2 ≤ N) (h : okPin p) {k : Nat} (hk : p.s % 2 = (k : Int)) :
    ∃ D', putM p D = (D', 0) ∧ CalmN N D' ∧ D'.pend = [] ∧ (∀ i, view D' i = if i = k then sealOf (pinB p) else view D i) ∧ D'.writes ≤ D.writes + 2 := by
  have hk2 : k < 2 := by have := h.1; omega
  obtain ⟨D1, hw, hc1, hp1, hv1, hw1⟩ := wipe_inN (n := 1) (D := D) (x := k) (so := false) hc (by omega) (fun _ => hp)
  have hr : reachM D = 0 := by unfold reachM; rw [if_neg (by simp [hc.down]), if_neg (by rw [hc.len]; omega)]
  have hc2 := hc1.write (x := k) (by omega) (sealOf (pinB p))
  obtain ⟨s1, s2, s3, s4⟩ := syncN hc2
  refine ⟨_, ?_, s1, s2, fun i => ?_, ?_⟩
  · unfold putM
    rw [if_neg (by simp [hr]), if_neg (by simp [h]), hk, hw]
    simp only
    rw [if_neg (by simp), if_neg (by rw [writeE_calmN hc1 (x := k) (by omega)]; simp), if_neg (by simp [hc2.down])]
  · rw [s3, view_write (hc1.ok (x := k) (by omega)), hv1]
    by_cases hi : i = k
    · subst hi; rw [if_pos rfl, if_pos rfl]
    · rw [if_neg (by omega), if_neg hi, if_neg (by omega)]
  · rw [s4, writes_writeN hc1 (x := k) (by omega), hw1]
    have : cnt (view D) k 1 ≤ 1 := by simp only [cnt]; split <;> omega
    omega
theorem sideM_some {k : Int} {o : Option PinP} {p : PinP} (h : sideM k o = some p) : o = some p ∧ p.s % 2 = k := by
  unfold sideM at h
  split at h
  · split at h
    · rename_i hk; simp only [Option.some.injEq] at h; subst h; exact ⟨rfl, hk⟩
    · cases h
  · cases h
end Go.Proofs.YtieejbkbdfccdaaGreat

set_option linter.unusedVariables false
set_option linter.unusedSimpArgs false
namespace Go.Proofs.YtieejbkbdfccdaaGreat
open Go
theorem check_spec {w : World} {p : PinP} : Ret P 4 #[pinV p] w fun v w' => v = i64 (if okPin p then 0 else 1) ∧ Fr [] w w' := by
  refine F4ok ?_
  unfold F4
  by_cases h0 : p.s < 1
  · rw [if_neg (fun h => by unfold okPin at h; omega)]
    have c0 : (p.s < 1) = True := eq_true h0
    try simp (maxDischargeDepth := 8) [↓sC, sB, sM, c0]
  have c0 : (p.s < 1) = False := eq_false h0
  by_cases h1 : 1099511627776 < p.s
  · rw [if_neg (fun h => by unfold okPin at h; omega)]
    have c1 : (1099511627776 < p.s) = True := eq_true h1
    try simp (maxDischargeDepth := 8) [↓sC, sB, sM, c0, c1]
  have c1 : (1099511627776 < p.s) = False := eq_false h1
  by_cases h2 : p.l < 0
  · rw [if_neg (fun h => by unfold okPin at h; omega)]
    have c2 : (p.l < 0) = True := eq_true h2
    try simp (maxDischargeDepth := 8) [↓sC, sB, sM, c0, c1, c2]
  have c2 : (p.l < 0) = False := eq_false h2
  by_cases h3 : 1099511627776 < p.l
  · rw [if_neg (fun h => by unfold okPin at h; omega)]
    have c3 : (1099511627776 < p.l) = True := eq_true h3
    try simp (maxDischargeDepth := 8) [↓sC, sB, sM, c0, c1, c2, c3]
  have c3 : (1099511627776 < p.l) = False := eq_false h3
  by_cases h4 : p.f < 0
  · rw [if_neg (fun h => by unfold okPin at h; omega)]
    have c4 : (p.f < 0) = True := eq_true h4
    try simp (maxDischargeDepth := 8) [↓sC, sB, sM, c0, c1, c2, c3, c4]
  have c4 : (p.f < 0) = False := eq_false h4
  by_cases h5 : 1 < p.f
  · rw [if_neg (fun h => by unfold okPin at h; omega)]
    have c5 : (1 < p.f) = True := eq_true h5
    try simp (maxDischargeDepth := 8) [↓sC, sB, sM, c0, c1, c2, c3, c4, c5]
  have c5 : (1 < p.f) = False := eq_false h5
  by_cases h6 : p.w < 0
  · rw [if_neg (fun h => by unfold okPin at h; omega)]
    have c6 : (p.w < 0) = True := eq_true h6
    try simp (maxDischargeDepth := 8) [↓sC, sB, sM, c0, c1, c2, c3, c4, c5, c6]
  have c6 : (p.w < 0) = False := eq_false h6
  by_cases h7 : 1 < p.w
  · rw [if_neg (fun h => by unfold okPin at h; omega)]
    have c7 : (1 < p.w) = True := eq_true h7
    try simp (maxDischargeDepth := 8) [↓sC, sB, sM, c0, c1, c2, c3, c4, c5, c6, c7]
  have c7 : (1 < p.w) = False := eq_false h7
  by_cases h8 : p.r < 1
  · rw [if_neg (fun h => by unfold okPin at h; omega)]
    have c8 : (p.r < 1) = True := eq_true h8
    try simp (maxDischargeDepth := 8) [↓sC, sB, sM, c0, c1, c2, c3, c4, c5, c6, c7, c8]
  have c8 : (p.r < 1) = False := eq_false h8
  by_cases h9 : 4096 < p.r
  · rw [if_neg (fun h => by unfold okPin at h; omega)]
    have c9 : (4096 < p.r) = True := eq_true h9
    try simp (maxDischargeDepth := 8) [↓sC, sB, sM, c0, c1, c2, c3, c4, c5, c6, c7, c8, c9]
  have c9 : (4096 < p.r) = False := eq_false h9
  by_cases h10 : p.c < 0
  · rw [if_neg (fun h => by unfold okPin at h; omega)]
    have c10 : (p.c < 0) = True := eq_true h10
    try simp (maxDischargeDepth := 8) [↓sC, sB, sM, c0, c1, c2, c3, c4, c5, c6, c7, c8, c9, c10]
  have c10 : (p.c < 0) = False := eq_false h10
  by_cases h11 : p.r < p.c
  · rw [if_neg (fun h => by unfold okPin at h; omega)]
    have c11 : (p.r < p.c) = True := eq_true h11
    try simp (maxDischargeDepth := 8) [↓sC, sB, sM, c0, c1, c2, c3, c4, c5, c6, c7, c8, c9, c10, c11]
  have c11 : (p.r < p.c) = False := eq_false h11
  rw [if_pos (by unfold okPin; omega)]
  try simp (maxDischargeDepth := 8) [↓sC, sB, sM, c0, c1, c2, c3, c4, c5, c6, c7, c8, c9, c10, c11]
theorem reached_spec {w : World} {b : Nat} {D : DD} {F : List Nat} (h : IsD w b D F) : Ret P 29 #[pt b 0] w fun v w' => v = i64 (reachM D) ∧ Fr [] w w' := by
  refine F29ok ?_
  unfold F29 reachM
  refine (down_spec h).call ?_
  rintro _ w1 ⟨rfl, f1⟩
  cases hd : D.down with
  | true =>
    try simp (maxDischargeDepth := 8) [↓sC, sB, sM]
    exact f1
  | false =>
    try simp (maxDischargeDepth := 8) [↓sC, sB, sM]
    refine (len_spec (h.fr0 f1)).call ?_
    rintro _ w2 ⟨rfl, f2⟩
    by_cases hl : D.firm.length < 2
    · have c1 : (D.firm.length < 2) = True := eq_true hl
      have c2 : ((D.firm.length : Int) < 2) = True := eq_true (by omega)
      try simp (maxDischargeDepth := 8) [↓sC, sB, sM, c1, c2]
      exact f1.trans0 f2
    · have c1 : (D.firm.length < 2) = False := eq_false hl
      have c2 : ((D.firm.length : Int) < 2) = False := eq_false (by omega)
      try simp (maxDischargeDepth := 8) [↓sC, sB, sM, c1, c2]
      exact ⟨by omega, f1.trans0 f2⟩
end Go.Proofs.YtieejbkbdfccdaaGreat
set_option linter.unusedVariables false
set_option linter.unusedSimpArgs false
namespace Go.Proofs.YtieejbkbdfccdaaGreat
open Go
def WtI (w : World) (p : PinP) (b ib : Nat) (m : Nat) (e : Env) (w' : World) : Prop :=
  ∃ (j : Nat) (F : List Nat), m = 6 - j ∧ j ≤ 6 ∧ IsW w' b (encAll ((pinParts p).take j)) F ∧ Own w w' F ∧ mm w' ib = pinL p ∧ ib < sz w' ∧ ib ∉ F ∧ e 3 = pt b 0 ∧ e 18 = sl ib 0 6 6 ∧ e 19 = i64 6 ∧ e 20 = i64 j
theorem encAll_tk {L : List PartP} {j : Nat} {p : PartP} (h : L[j]? = some p) : encAll (L.take (j + 1)) = encAll (L.take j) ++ encP p := by
  rw [List.take_add_one, h]; exact encAll_snoc _ _
theorem encAll_tk_le (L : List PartP) (j : Nat) : (encAll (L.take j)).length ≤ (encAll L).length := by
  have : encAll L = encAll (L.take j) ++ encAll (L.drop j) := by
    unfold encAll
    rw [← List.flatten_append, ← List.map_append, List.take_append_drop]
  rw [this, List.length_append]; omega
theorem pin_bound {p : PinP} (h : okPin p) : ∀ n ∈ pinNs p, 0 ≤ n ∧ n ≤ 1099511627776 := by
  obtain ⟨h1, h2, h3, h4, h5, h6, h7, h8, h9, h10, h11, h12⟩ := h
  intro n hn
  simp only [pinNs, List.mem_cons, List.not_mem_nil, or_false] at hn
  omega
theorem pinL_eq (p : PinP) : pinL p = (pinNs p).map (Value.int .i64) := rfl
theorem written_spec {w : World} {p : PinP} (h : okPin p) : Ret P 32 #[pinV p] w fun v w' => w'.ownsRow (sz w) 5 1 v (pinB p).length (bs (pinB p)) ∧ Fr [] w w' := by
  refine F32ok ?_
  unfold F32
  have hb43 : ∀ w, pBuildSlice P 23 6 [(0, i64 p.s), (1, i64 p.l), (2, i64 p.f), (3, i64 p.c), (4, i64 p.w), (5, i64 p.r)] w = some (sl (sz w) 0 6 6, nw w (pinL p) 3) := fun w => by
    rw [bsl23 (by omega) (by simp)]; rfl
  have hlen := pinB_len h
  try simp (maxDischargeDepth := 8) [↓sC, sB, sM, hb43, -bsl23]
  obtain ⟨X, hX⟩ : ∃ X, X = nw (nw (nw w (pinL p) 29) [Value.slice none 0 0] 115) (pinL p) 3 := ⟨_, rfl⟩
  have fX : Fr [] w X := by rw [hX]; exact (((Fr.refl [] w).nw _ _).nw _ _).nw _ _
  have hXs : sz X = sz w + 3 := by rw [hX]; simp [sM]
  have hX1 : mm X (sz w + 1) = [Value.slice none 0 0] := by rw [hX]; simp [sM]
  have hX1z : fz X (sz w + 1) = false := by rw [hX]; simp [sM]
  have hX2 : mm X (sz w + 2) = pinL p := by rw [hX]; simp [sM]
  have hw0 : IsW X (sz w + 1) [] [sz w + 1] := ⟨.slice none 0 0, hX1, hX1z, World.ownsRow_nil _ _ _ _, by simp [Value.ownBlock], by simp, by simp; omega⟩
  have hO0 : Own w X [sz w + 1] := ⟨fX, by simp⟩
  have hs2 : sz w + 2 < sz X := by omega
  subst hX
  refine loopE_of (WtI w p (sz w + 1) (sz w + 2)) 6 ⟨0, [sz w + 1], by omega, by omega, hw0, hO0, hX2, hs2, by simp, by simp [put_get, argE_get], by simp [put_get], by simp [put_get], by simp [put_get]⟩ ?_
  rintro m e w1 hI
  obtain ⟨j, F, hm, hj, hw, hO, hmi, hil, hiF, e3, e18, e19, e20⟩ := hI
  subst hm
  unfold F32B0
  by_cases hjl : j < 6
  · have t1 : (j < 6) = True := eq_true hjl
    have t2 : ((j : Int) < 6) = True := eq_true (by omega)
    obtain ⟨n, hn⟩ : ∃ n, (pinNs p)[j]? = some n := ⟨_, List.getElem?_eq_getElem (by show j < 6; exact hjl)⟩
    obtain ⟨n0, n1⟩ := pin_bound h n (List.mem_of_getElem? hn)
    obtain ⟨k, rfl⟩ : ∃ k : Nat, n = k := ⟨n.toNat, by omega⟩
    have hpart : (pinParts p)[j]? = some (uPart k) := by unfold pinParts; rw [List.getElem?_map, hn]; rfl
    have hgl : (mm w1 (sz w + 2)).length = 6 := by rw [hmi]; rfl
    have hg : gt (mm w1 (sz w + 2)) j = i64 k := by
      rw [hmi, pinL_eq]
      unfold gt
      rw [List.getD_eq_getElem?_getD, List.getElem?_map, hn]
      rfl
    have hia : ∀ w', pIndexAddr P 23 (sl (sz w + 2) 0 6 6) (i64 j) w' = some (pt (sz w + 2) j, w') := fun w' => by
      have := ia23 (w := w') (b := sz w + 2) (o := 0) (n := 6) (c := 6) (k := .i64) (j := (j : Int)) (by omega) (by omega)
      rw [this]; simp
    have hld : pLoad P 3 (pt (sz w + 2) j) w1 = some (i64 k, w1) := by rw [ld3 (by omega), hg]
    have hcv : ∀ w', pConv P 3 127 (i64 (k : Int)) w' = some (u64 k, w') := fun w' => by
      rw [pConv_int (k := .i64) (k' := .u64) tyOk3 intK127]
      have : IntKind.u64.wrap (k : Int) = (k : Int) := wrapu (by rw [H63x2]; omega)
      rw [this]
    have hwj : IntKind.i64.wrap ((j : Int) + 1) = ((j + 1 : Nat) : Int) := wrap64 (by omega) (by omega)
    have hle := encAll_tk_le (pinParts p) (j + 1)
    rw [encAll_tk hpart, List.length_append, encP_u] at hle
    have hpb : (encAll (pinParts p)).length = (pinB p).length := rfl
    try simp (maxDischargeDepth := 8) [↓sC, sB, sM, e3, e18, e19, e20, t1, t2, hia, hld, hcv, -ld3, -ia23]
    refine (wU_spec hw (n := k) (by rw [H63x2]; omega) (by omega)).call ?_
    rintro _ w2 ⟨rfl, F2, hm2⟩
    try simp (maxDischargeDepth := 8) [↓sC, sB, sM, e20, hwj, -Int.natCast_add]
    have hiF2 : sz w + 2 ∉ F2 := fun hk => by
      rcases hm2.new _ hk with h | h
      · exact hiF h
      · omega
    exact ⟨6 - (j + 1), by omega, j + 1, F2, rfl, by omega, by rw [encAll_tk hpart, encP_u]; exact hm2.is, hO.step hm2.fr hm2.new, by rw [hm2.fr.mm hil hiF, hmi], hm2.fr.lt hil, hiF2, by simp [put_get, e3], by simp [put_get, e18], by simp [put_get, e19], by simp [put_get]⟩
  · have hje : j = 6 := by omega
    subst hje
    try simp (maxDischargeDepth := 8) [↓sC, sB, sM, e3, e19, e20]
    have htk : (pinParts p).take 6 = pinParts p := rfl
    rw [htk] at hw
    refine (wBytes_spec hw (by show (pinB p).length ≤ _; omega)).call ?_
    rintro v2 w2 ⟨hown, hf⟩
    try simp (maxDischargeDepth := 8) [↓sC, sB, sM]
    exact ⟨own_base hown hO.fr.size, hO.fr.trans0 hf⟩
end Go.Proofs.YtieejbkbdfccdaaGreat
set_option linter.unusedVariables false
set_option linter.unusedSimpArgs false
namespace Go.Proofs.YtieejbkbdfccdaaGreat
open Go
def PinR (o : Option PinP) (x : Value) : Prop := ∃ q b, x = .tuple #[pinV q, .bool b] ∧ o = if b = true then some q else none
theorem readGo_full (most : Int) : ∀ (K l : List UInt8) (k : Nat) (acc : List PartP), (readGo most K l k acc).2.1 = 0 → (readGo most K l k acc).1.length = acc.length + K.length := by
  intro K
  induction K with
  | nil =>
    intro l k acc h
    unfold readGo at h ⊢
    split at h
    · simp at h
    · rename_i hl; rw [if_neg hl]; simp
  | cons c cs ih =>
    intro l k acc h
    rw [readGo] at h ⊢
    split at h
    · rename_i hc; exact absurd h hc
    · rename_i hl
      rw [if_neg hl, ih _ _ _ h]
      simp; omega
theorem readM_full (B K : List UInt8) (most : Int) (h : (readM B K most).2.1 = 0) : (readM B K most).1.length = K.length := by
  have := readGo_full most K B 0 [] h
  rw [List.length_nil, Nat.zero_add] at this
  exact this
def nbL (us : List Nat) (j : Nat) : List Value := (us.take j ++ List.replicate (6 - j) 0).map fun n : Nat => i64 (n : Int)
theorem nbL_len {us : List Nat} (h : us.length = 6) {j : Nat} (hj : j ≤ 6) : (nbL us j).length = 6 := by
  unfold nbL; rw [List.length_map, List.length_append, List.length_take, List.length_replicate]; omega
theorem nbL_set {us : List Nat} {j u : Nat} (h : us.length = 6) (hj : j < 6) (hu : us[j]? = some u) : (nbL us j).set j (i64 (u : Int)) = nbL us (j + 1) := by
  unfold nbL
  have hl : (us.take j).length = j := by rw [List.length_take]; omega
  have h1 : List.replicate (6 - j) 0 = (0 : Nat) :: List.replicate (6 - (j + 1)) 0 := by rw [show 6 - j = (6 - (j + 1)) + 1 by omega]; rfl
  have h2 : us.take (j + 1) = us.take j ++ [u] := by rw [List.take_add_one, hu]; rfl
  rw [h1, h2, List.map_append, List.map_append, List.map_append, List.map_cons, List.set_append, List.length_map, hl, if_neg (by omega), Nat.sub_self]
  simp
theorem list6 {α : Type} {l : List α} (h : l.length = 6) : ∃ a b c d e f, l = [a, b, c, d, e, f] := by
  match l, h with
  | [a, b, c, d, e, f], _ => exact ⟨a, b, c, d, e, f, rfl⟩
theorem pinL_len (p : PinP) : (pinL p).length = 6 := rfl
theorem sp6 {l : List Value} {a b c d e f : Value} (h : l.length = 6) : splice l 0 [a, b, c, d, e, f] = [a, b, c, d, e, f] := splice_full (by rw [h]; rfl)
theorem pld87 {w : World} {b : Nat} {p : PinP} (h : mm w b = pinL p) : pLoad P 29 (pt b 0) w = some (pinV p, w) := by
  rw [ld29 (by rw [h]; exact Nat.le_refl 6), h]; rfl
theorem pst87 {w : World} {b : Nat} {p : PinP} (h : (mm w b).length = 6) (hz : fz w b = false) : pStore P 29 (pt b 0) (pinV p) w = some (wr w b (pinL p)) := by
  rw [st29 (by rfl) (by simp) hz (by rw [h]; exact Nat.le_refl 6), sp6 h]; rfl
def RpI (w0 : World) (res nb : Nat) (ov : Value) (L : List PartP) (m : Nat) (e : Env) (w' : World) : Prop :=
  ∃ j : Nat, m = 6 - j ∧ j ≤ 6 ∧ Fr [res, nb] w0 w' ∧ mm w' res = pinL zPin ∧ fz w' res = false ∧ mm w' nb = nbL (L.map (·.u)) j ∧ fz w' nb = false ∧ (∀ q ∈ L.take j, q.u ≤ 1099511627776) ∧
    e 2 = pt res 0 ∧ e 6 = pt nb 0 ∧ e 19 = ov ∧ e 20 = i64 6 ∧ e 21 = i64 j
theorem pinRead_spec {w : World} {v : Value} {B : List UInt8} (hv : RdV w v B.length (bs B)) : Ret P 37 #[v] w fun x w' => PinR (readP B) x ∧ Fr [] w w' := by
  refine F37ok ?_
  unfold F37
  obtain ⟨W, hW⟩ : ∃ W, W = nw w (pinL zPin) 29 := ⟨_, rfl⟩
  have fW : Fr [] w W := by rw [hW]; exact (Fr.refl [] w).nw _ _
  have hWm : mm W (sz w) = pinL zPin := by rw [hW]; simp [sM]
  have hWz : fz W (sz w) = false := by rw [hW]; simp [sM]
  have hWs : sz W = sz w + 1 := by rw [hW]; simp [sM]
  have hK : Value.string { data := #[117, 117, 117, 117, 117, 117] } = strB K6 := rfl
  unfold pinL zPin at hW
  try simp (maxDischargeDepth := 8) [↓sC, sB, sM, hK, ← hW]
  have hrd := packRead_spec (most := 0) (K := K6) (hv.fr0 fW) (by omega) (by show 6 ≤ _; omega)
  refine hrd.call ?_
  rintro _ w2 ⟨ov, rfl, hown, hok, f2⟩
  obtain ⟨L, hL⟩ : ∃ L, L = (readM B K6 0).1 := ⟨_, rfl⟩
  obtain ⟨c, hc⟩ : ∃ c, c = (readM B K6 0).2.1 := ⟨_, rfl⟩
  obtain ⟨at_, hat⟩ : ∃ a, a = (readM B K6 0).2.2 := ⟨_, rfl⟩
  rw [← hL] at hown hok
  rw [← hc, ← hat]
  have g2 := fW.trans0 f2
  have hm2 : mm w2 (sz w) = pinL zPin := by rw [f2.mm (by omega) (by simp), hWm]
  have hz2 : fz w2 (sz w) = false := by rw [f2.fz (by omega) (by simp), hWz]
  have hs2 := lt_of_fz hz2
  have hsp2 : ∀ (a b : Int) (l : List Value), l.length = 2 → splice l 0 [i64 a, i64 b] = [i64 a, i64 b] := fun a b l hl => splice_full (by rw [hl]; rfl)
  obtain ⟨X, hX⟩ : ∃ X, X = wr (nw w2 [i64 0, i64 0] 131) (sz w2) [i64 c, i64 at_] := ⟨_, rfl⟩
  have fX : Fr [] w2 X := by rw [hX]; exact ((Fr.refl [] w2).nw _ _).wr (.inr (Nat.le_refl _)) _
  have hXm : mm X (sz w2) = [i64 c, i64 at_] := by rw [hX]; simp [sM]
  have hXs : sz X = sz w2 + 1 := by rw [hX]; simp [sM]
  have mX : mm X (sz w) = pinL zPin := by rw [fX.mm hs2 (by simp), hm2]
  have zX : fz X (sz w) = false := by rw [fX.fz hs2 (by simp), hz2]
  have lX : (mm X (sz w)).length = 6 := by rw [mX]; rfl
  have hzp : ∀ (Z : World), (mm Z (sz w)).length = 6 → fz Z (sz w) = false → pStore P 29 (pt (sz w) 0) (Value.agg #[Value.int .i64 0, Value.int .i64 0, Value.int .i64 0, Value.int .i64 0, Value.int .i64 0, Value.int .i64 0]) Z = some (wr Z (sz w) (pinL zPin)) := fun Z h1 h2 => pst87 (p := zPin) h1 h2
  have hzl : ∀ (Z : World), fz Z (sz w) = false → pLoad P 29 (pt (sz w) 0) (wr Z (sz w) (pinL zPin)) = some (pinV zPin, wr Z (sz w) (pinL zPin)) := fun Z h2 => pld87 (by rw [mm_wr_same h2])
  have gX := g2.trans0 fX
  by_cases hc0 : c = 0
  · have hLl : L.length = 6 := by
      have h0 : (readM B K6 0).2.1 = 0 := by rw [← hc]; exact hc0
      have := readM_full B K6 0 h0
      rw [hL, this]; rfl
    have c1 : (c = 0) = True := eq_true hc0
    have c2 : ((c : Int) = 0) = True := eq_true (by omega)
    obtain ⟨oa, oc, hov⟩ := own_sl hown
    have hlo : ∀ w, pBuiltin P .len #[129] 3 [ov] w = some (i64 6, w) := fun w => by rw [hov, hLl]; exact len129
    obtain ⟨us, hus⟩ : ∃ us, us = L.map (·.u) := ⟨_, rfl⟩
    have husl : us.length = 6 := by rw [hus, List.length_map, hLl]
    obtain ⟨Y, hY⟩ : ∃ Y, Y = nw X (nbL us 0) 134 := ⟨_, rfl⟩
    have fY : Fr [] X Y := by rw [hY]; exact (Fr.refl [] X).nw _ _
    have hYm : mm Y (sz w2 + 1) = nbL us 0 := by rw [hY, ← hXs]; simp [sM]
    have hYz : fz Y (sz w2 + 1) = false := by rw [hY, ← hXs]; simp [sM]
    have hsX : sz w < sz X := by omega
    have mY : mm Y (sz w) = pinL zPin := by rw [fY.mm hsX (by simp), mX]
    have zY : fz Y (sz w) = false := by rw [fY.fz hsX (by simp), zX]
    have hYn : Y = nw X [Value.int .i64 0, Value.int .i64 0, Value.int .i64 0, Value.int .i64 0, Value.int .i64 0, Value.int .i64 0] 134 := hY
    try simp (maxDischargeDepth := 8) [↓sC, sB, sM, hsp2, ← hX, hXm, hXs, c1, c2, mX, zX, ← hYn, hlo]
    refine loopE_of (RpI Y (sz w) (sz w2 + 1) ov L) 6 ⟨0, by omega, by omega, Fr.refl _ _, mY, zY, by rw [hYm, hus], hYz, by simp, by simp [put_get, argE_get], by simp [put_get], by simp [put_get], by simp [put_get], by simp [put_get]⟩ ?_
    rintro m e w3 hI
    obtain ⟨j, hm, hj, f3, m3, z3, n3, y3, hq, e2, e6, e19, e20, e21⟩ := hI
    subst hm
    unfold F37B0
    have hres3 := lt_of_fz z3
    have hnb3 := lt_of_fz y3
    have g3 : Fr [] w w3 := (gX.trans0 fY).trans f3 (fun k hk => .inr (by simp at hk; omega))
    have hr3 : RdV w3 ov L.length (flat partC L) := ((own_rd hown).fr0 (fX.trans0 fY)).fr f3 (fun k hk hkm => by have := own_lt hown k hk; simp at hkm; omega)
    by_cases hjl : j < 6
    · have t1 : (j < 6) = True := eq_true hjl
      have t2 : ((j : Int) < 6) = True := eq_true (by omega)
      obtain ⟨q, hqj⟩ : ∃ q, L[j]? = some q := ⟨_, List.getElem?_eq_getElem (by omega)⟩
      obtain ⟨hqu, _, _⟩ := hok q (List.mem_of_getElem? hqj)
      rw [H63x2] at hqu
      obtain ⟨pb, po, pc, hov2, hpb, hin, htk⟩ := flat_at hr3 (partC_len L) (by omega) hqj
      have hia : ∀ w', pIndexAddr P 129 ov (i64 j) w' = some (pt pb (po + j * 6), w') := fun w' => by
        rw [hov2]
        have := ia129 (w := w') (b := pb) (o := po) (n := L.length) (c := pc) (k := .i64) (j := (j : Int)) (by omega) (by omega)
        rw [this]; simp
      have hld : pLoad P 136 (pt pb (po + j * 6)) w3 = some (.agg (partC q).toArray, w3) := by rw [ld136 hin, htk]
      have hs6 : ∀ l : List Value, l.length = 6 → splice l 0 (partC q) = partC q := fun l hl => splice_full (by rw [hl]; rfl)
      have hone := partC_oneT q
      have hol : (partC q).length = 6 := rfl
      have gq : gt (partC q) 1 = u64 q.u := rfl
      obtain ⟨z, hz⟩ : ∃ z : List Value, z = [Value.int IntKind.u8 0, Value.int IntKind.u64 0, Value.int IntKind.i64 0, Value.float FloatKind.f64 0, Value.string ByteArray.empty, Value.bool false] := ⟨_, rfl⟩
      have hzl6 : z.length = 6 := by rw [hz]; rfl
      obtain ⟨Z, hZ⟩ : ∃ Z, Z = wr (nw w3 z 136) (sz w3) (partC q) := ⟨_, rfl⟩
      have fZ : Fr [] w3 Z := by rw [hZ]; exact ((Fr.refl [] w3).nw _ _).wr (.inr (Nat.le_refl _)) _
      have hZm : mm Z (sz w3) = partC q := by rw [hZ]; simp [sM]
      have mZ : mm Z (sz w) = pinL zPin := by rw [fZ.mm hres3 (by simp), m3]
      have zZ : fz Z (sz w) = false := by rw [fZ.fz hres3 (by simp), z3]
      have nZ : mm Z (sz w2 + 1) = nbL us j := by rw [fZ.mm hnb3 (by simp), n3, hus]
      have yZ : fz Z (sz w2 + 1) = false := by rw [fZ.fz hnb3 (by simp), y3]
      have hwj : IntKind.i64.wrap ((j : Int) + 1) = ((j + 1 : Nat) : Int) := wrap64 (by omega) (by omega)
      have hal : ∀ w, pAlloc P 136 w = some (pt (sz w) 0, nw w z 136) := fun w => by rw [al136, hz]
      have hst : pStore P 136 (pt (sz w3) 0) (.agg (partC q).toArray) (nw w3 z 136) = some Z := by
        rw [hZ]; try simp (maxDischargeDepth := 8) [↓sC, sB, sM, hs6, hone, hol, hzl6]
      have hl1 : pLoad P 127 (pt (sz w3) 1) Z = some (u64 q.u, Z) := by rw [ld127 (by rw [hZm, hol]; omega), hZm, gq]
      have huj : us[j]? = some q.u := by rw [hus, List.getElem?_map, hqj]; rfl
      by_cases hbig : 1099511627776 < q.u
      · have c3 : (1099511627776 < q.u) = True := eq_true hbig
        have c4 : ((1099511627776 : Int) < q.u) = True := eq_true (by omega)
        try simp (maxDischargeDepth := 8) [↓sC, sB, sM, letK_def, e2, e19, e20, e21, t1, t2, hia, hld, hal, hst, hl1, c3, c4, mZ, zZ, hzp, hzl, pinL_len, -st29, -ld29, -al136, -ld136, -st136, -ld127]
        refine ⟨⟨zPin, false, rfl, ?_⟩, (g3.trans0 fZ).wr (.inr (Nat.le_refl _)) _⟩
        unfold readP
        rw [if_neg (fun hh => by have := hh.2.1 q (by rw [← hL]; exact List.mem_of_getElem? hqj); omega)]
        rfl
      · have c3 : (1099511627776 < q.u) = False := eq_false hbig
        have c4 : ((1099511627776 : Int) < q.u) = False := eq_false (by omega)
        have hcv : ∀ w', pConv P 127 3 (u64 q.u) w' = some (i64 (q.u : Int), w') := fun w' => by
          rw [pConv_int (k := .u64) (k' := .i64) tyOk127 intK3, wrap64 (by omega) (by omega)]
        have hst3 : pStore P 3 (pt (sz w2 + 1) j) (i64 (q.u : Int)) Z = some (wr Z (sz w2 + 1) (nbL us (j + 1))) := by
          rw [st3 (by simp) yZ (by rw [nZ, nbL_len husl (by omega)]; exact hjl), nZ, nbL_set husl hjl huj]
        try simp (maxDischargeDepth := 8) [↓sC, sB, sM, letK_def, e2, e6, e19, e20, e21, t1, t2, hia, hld, hal, hst, hl1, c3, c4, hcv, hst3, hwj, -st3, -al136, -ld136, -st136, -ld127, -Int.natCast_add]
        refine ⟨6 - (j + 1), by omega, j + 1, rfl, by omega, (f3.trans fZ (by simp)).wr (.inl (by simp)) _, by rw [mm_wr_ne (by omega), mZ], by rw [fz_wr, zZ], by rw [mm_wr_same yZ, hus], by rw [fz_wr, yZ], fun x hx => ?_, by simp [put_get, e2], by simp [put_get, e6], by simp [put_get, e19], by simp [put_get, e20], by simp [put_get]⟩
        rw [List.take_add_one, hqj] at hx
        rcases List.mem_append.1 hx with hx | hx
        · exact hq x hx
        · have : x = q := by simpa using hx
          rw [this]; omega
    · have hje : j = 6 := by omega
      subst hje
      have nb6 : nbL us 6 = us.map fun n : Nat => i64 (n : Int) := by unfold nbL; rw [List.take_of_length_le (by omega)]; simp
      obtain ⟨a1, a2, a3, a4, a5, a6, ha⟩ := list6 husl
      obtain ⟨pp, hpp⟩ : ∃ pp : PinP, pp = ⟨(a1 : Int), (a2 : Int), (a3 : Int), (a4 : Int), (a5 : Int), (a6 : Int)⟩ := ⟨_, rfl⟩
      have hpo : pinOf us = pp := by rw [ha, hpp]; rfl
      have hpV : pinV pp = Value.agg #[i64 a1, i64 a2, i64 a3, i64 a4, i64 a5, i64 a6] := by rw [hpp]
      have n6 : mm w3 (sz w2 + 1) = [i64 a1, i64 a2, i64 a3, i64 a4, i64 a5, i64 a6] := by rw [n3, ← hus, nb6, ha]; rfl
      obtain ⟨V, hV⟩ : ∃ V, V = wr (nw w3 (pinL zPin) 29) (sz w3) (pinL pp) := ⟨_, rfl⟩
      have fV : Fr [] w3 V := by rw [hV]; exact ((Fr.refl [] w3).nw _ _).wr (.inr (Nat.le_refl _)) _
      have hVm : mm V (sz w3) = pinL pp := by rw [hV]; simp [sM]
      have hVs : sz w3 < sz V := by rw [hV]; simp [sM]
      have hst9 : pStore P 29 (pt (sz w3) 0) (Value.agg #[i64 a1, i64 a2, i64 a3, i64 a4, i64 a5, i64 a6]) (nw w3 [Value.int .i64 0, Value.int .i64 0, Value.int .i64 0, Value.int .i64 0, Value.int .i64 0, Value.int .i64 0] 29) = some V := by
        rw [hV, ← hpV]
        exact pst87 (by simp [sM]) (by simp [sM])
      have fVd := fV.drew
      have hl9 : pLoad P 29 (pt (sz w3) 0) (drew V) = some (pinV pp, drew V) := pld87 (by rw [mm_drew, hVm])
      try simp (maxDischargeDepth := 8) [↓sC, sB, sM, e2, e6, e20, e21, n6, hst9, hl9, -st29, -ld29]
      have hck := check_spec (w := drew V) (p := pp)
      refine hck.call ?_
      rintro _ w5 ⟨rfl, f5⟩
      have f35 : Fr [] w3 w5 := fVd.trans0 f5
      have hl5 : pLoad P 29 (pt (sz w3) 0) w5 = some (pinV pp, w5) := pld87 (by rw [f5.mm (by rw [sz_drew]; exact hVs) (by simp), mm_drew, hVm])
      have m5 : mm w5 (sz w) = pinL zPin := by rw [f35.mm hres3 (by simp), m3]
      have z5 : fz w5 (sz w) = false := by rw [f35.fz hres3 (by simp), z3]
      have hs5 : pStore P 29 (pt (sz w) 0) (pinV pp) w5 = some (wr w5 (sz w) (pinL pp)) := pst87 (by rw [m5]; rfl) z5
      have hl6 : pLoad P 29 (pt (sz w) 0) (wr w5 (sz w) (pinL pp)) = some (pinV pp, wr w5 (sz w) (pinL pp)) := pld87 (by rw [mm_wr_same z5])
      have gF : Fr [] w (wr w5 (sz w) (pinL pp)) := (g3.trans0 f35).wr (.inr (Nat.le_refl _)) _
      have h0 : (readM B K6 0).2.1 = 0 := by rw [← hc]; exact hc0
      have hall : ∀ q ∈ (readM B K6 0).1, q.u ≤ 1099511627776 := fun q hq2 => hq q (by rw [List.take_of_length_le (by omega), hL]; exact hq2)
      have hpo2 : pinOf ((readM B K6 0).1.map (·.u)) = pp := by rw [← hL, ← hus]; exact hpo
      have hrp : readP B = if okPin pp then some pp else none := by
        unfold readP
        rw [hpo2]
        by_cases hk : okPin pp
        · rw [if_pos ⟨h0, hall, hk⟩, if_pos hk]
        · rw [if_neg (fun hh => hk hh.2.2), if_neg hk]
      by_cases hk : okPin pp
      · rw [if_pos hk] at hrp ⊢
        try simp (maxDischargeDepth := 8) [↓sC, sB, sM, hl5, hs5, hl6, -st29, -ld29]
        exact ⟨⟨pp, true, rfl, hrp⟩, gF⟩
      · rw [if_neg hk] at hrp ⊢
        try simp (maxDischargeDepth := 8) [↓sC, sB, sM, hl5, hs5, hl6, -st29, -ld29]
        exact ⟨⟨pp, false, rfl, hrp⟩, gF⟩
  · have c1 : (c = 0) = False := eq_false hc0
    have c2 : ((c : Int) = 0) = False := eq_false (by omega)
    try simp (maxDischargeDepth := 8) [↓sC, sB, sM, hsp2, ← hX, hXm, hXs, c1, c2, mX, zX, hzp, hzl, pinL_len, -st29, -ld29]
    refine ⟨⟨zPin, false, rfl, ?_⟩, gX.wr (.inr (Nat.le_refl _)) _⟩
    unfold readP
    rw [if_neg (fun hh => hc0 (by rw [hc]; exact hh.1))]
    rfl
end Go.Proofs.YtieejbkbdfccdaaGreat
set_option linter.unusedVariables false
set_option linter.unusedSimpArgs false
namespace Go.Proofs.YtieejbkbdfccdaaGreat
open Go
end Go.Proofs.YtieejbkbdfccdaaGreat

set_option linter.unusedVariables false
set_option linter.unusedSimpArgs false
namespace Go.Proofs.YtieejbkbdfccdaaGreat
open Go
theorem pg0 (p : PinP) : gt (pinL p) 0 = i64 p.s := rfl
theorem tmod_pin {p : PinP} (h : okPin p) : p.s.tmod 2 = p.s % 2 := Int.tmod_eq_emod_of_nonneg (by have := h.1; omega)
theorem remP {p : PinP} (h : okPin p) {k : Int} (hk : p.s % 2 = k) (w : World) : pBin P .rem 3 true (i64 p.s) (Value.int .i64 2) w = some (i64 k, w) := by
  rw [pBin_rem (by omega), tmod_pin h, hk]
end Go.Proofs.YtieejbkbdfccdaaGreat
set_option linter.unusedVariables false
set_option linter.unusedSimpArgs false
namespace Go.Proofs.YtieejbkbdfccdaaGreat
open Go
theorem pinW_pend (D : DD) (x : Int) (s : List UInt8) : (writeD D x s).pend.length ≤ D.pend.length + 1 := by unfold writeD; split <;> simp
theorem pinW_writes (D : DD) (x : Int) (s : List UInt8) : (writeD D x s).writes ≤ D.writes + 1 := by
  unfold writeD; split
  · exact Int.le_refl _
  · omega
theorem IsD.ltP {w : World} {b : Nat} {D : DD} {F : List Nat} (h : IsD w b D F) : ∀ k ∈ F, k < sz w := by
  obtain ⟨hw, fb, fc, pv, tl, h1, h2, h3, h4, h5, h6, h7, h8, h9, h10, h11, h12, h13, h14⟩ := h
  exact h14
theorem syncD_bound (D : DD) : (syncD D).pend.length ≤ D.pend.length ∧ (syncD D).writes = D.writes := by
  unfold syncD
  split <;> simp
theorem wipe1_bound (D : DD) (x : Int) : (wipeGo 1 D x false).1.pend.length ≤ D.pend.length + 1 ∧ (wipeGo 1 D x false).1.writes ≤ D.writes + 1 := by
  have h1 := pinW_pend D x (zb 64)
  have h2 := pinW_writes D x (zb 64)
  unfold wipeGo
  split
  · split
    · simp [wipeGo]; omega
    · split
      · simp only [wipeGo, if_true]
        obtain ⟨a, b⟩ := syncD_bound (writeD D x (zb 64))
        omega
      · exact ⟨h1, h2⟩
  · simp; omega
theorem pinPut_spec {w : World} {b : Nat} {D : DD} {F : List Nat} {p : PinP} (h : IsD w b D F) (hm : D.pend.length + 10 < 1000000) (hwr : D.writes + 10 < 4611686018427387904) :
    Ret P 10 #[pt b 0, pinV p] w fun x w' => x = i64 (putM p D).2 ∧ ∃ F', IsD w' b (putM p D).1 F' ∧ Grow F w F' w' := by
  refine F10ok ?_
  unfold F10
  obtain ⟨W, hW⟩ : ∃ W, W = nw w (pinL p) 29 := ⟨_, rfl⟩
  have fW : Fr [] w W := by rw [hW]; exact (Fr.refl [] w).nw _ _
  have hWm : mm W (sz w) = pinL p := by rw [hW]; simp [sM]
  have hWs : sz W = sz w + 1 := by rw [hW]; simp [sM]
  unfold pinL at hW
  try simp (maxDischargeDepth := 8) [↓sC, sB, sM, ← hW]
  refine (reached_spec (h.fr0 fW)).call ?_
  rintro _ w1 ⟨rfl, f1⟩
  have q1 := fW.trans0 f1
  have m1 : mm w1 (sz w) = pinL p := by rw [f1.mm (by omega) (by simp), hWm]
  have s1 : sz w < sz w1 := f1.lt (by omega)
  have hlp : pLoad P 29 (pt (sz w) 0) w1 = some (pinV p, w1) := pld87 m1
  by_cases hr : reachM D = 0
  · rw [hr]
    try simp (maxDischargeDepth := 8) [↓sC, sB, sM, hlp, -ld29]
    have hck := check_spec (w := w1) (p := p)
    refine hck.call ?_
    rintro _ w2 ⟨rfl, f2⟩
    have q2 := q1.trans0 f2
    have m2 : mm w2 (sz w) = pinL p := by rw [f2.mm s1 (by simp), m1]
    have s2 := f2.lt s1
    by_cases hk : okPin p
    · rw [if_pos hk]
      obtain ⟨k, hkk, hk2⟩ := side_nat hk
      have hn : pLoad P 3 (pt (sz w) 0) w2 = some (i64 p.s, w2) := by rw [ld3 (by rw [m2, pinL_len]; omega), m2, pg0]
      have hrm := remP hk hkk
      try simp (maxDischargeDepth := 8) [↓sC, sB, sM, hn, hrm, -ld3]
      have hwp := wipe_spec (x := (k : Int)) (ni := 1) (n := 1) (h.fr0 q2) (by omega) (by omega) (by omega) (by omega) (by omega) (by omega)
      obtain ⟨hb1, hb2⟩ := wipe1_bound D k
      have hput0 : putM p D = if (wipeGo 1 D (k : Int) false).2 ≠ 0 then wipeGo 1 D (k : Int) false else if writeE (wipeGo 1 D (k : Int) false).1 k ≠ 0 then (writeD (wipeGo 1 D (k : Int) false).1 k (sealOf (pinB p)), writeE (wipeGo 1 D (k : Int) false).1 k)
          else (syncD (writeD (wipeGo 1 D (k : Int) false).1 k (sealOf (pinB p))), if (writeD (wipeGo 1 D (k : Int) false).1 k (sealOf (pinB p))).down then 14 else 0) := by
        unfold putM
        rw [if_neg (by simp [hr]), if_neg (by simp [hk]), hkk]
      obtain ⟨D1, hD1⟩ : ∃ D1, D1 = (wipeGo 1 D (k : Int) false).1 := ⟨_, rfl⟩
      obtain ⟨c1, hc1⟩ : ∃ c1, c1 = (wipeGo 1 D (k : Int) false).2 := ⟨_, rfl⟩
      have hwg : wipeGo 1 D (k : Int) false = (D1, c1) := by rw [hD1, hc1]
      rw [hwg] at hput0 hb1 hb2 hwp
      simp only at hput0 hb1 hb2 hwp
      refine hwp.call ?_
      rintro _ w3 ⟨rfl, F3, hd3, hg3⟩
      have hFlt : ∀ k ∈ F, k < sz w := h.ltP
      have g3 : Grow F w F3 w3 := (Grow.calm (Grow.refl F w) q2).step hg3.fr hg3.new
      have n0 : sz w ∉ F := fun hk => by have := hFlt _ hk; omega
      have m3 : mm w3 (sz w) = pinL p := by rw [hg3.fr.mm s2 n0, m2]
      have s3 := hg3.fr.lt s2
      by_cases hc0 : c1 = 0
      · subst hc0
        rw [if_neg (by simp)] at hput0
        have hlp3 : pLoad P 29 (pt (sz w) 0) w3 = some (pinV p, w3) := pld87 m3
        try simp (maxDischargeDepth := 8) [↓sC, sB, sM, hlp3, -ld29]
        refine (written_spec hk).call ?_
        rintro v4 w4 ⟨hown4, f4⟩
        have hlen := pinB_len hk
        have hsl := sealOf_length hlen
        try simp (maxDischargeDepth := 8) [↓sC, sB, sM]
        refine (seal_spec (own_rd hown4)).call ?_
        rintro _ w5 ⟨rfl, f5⟩
        rw [if_pos hlen, if_pos hlen]
        obtain ⟨X, hX⟩ : ∃ X, X = wr (nw w5 (bs (zb 64)) 90) (sz w5) (bs (sealOf (pinB p))) := ⟨_, rfl⟩
        have fX : Fr [] w5 X := by rw [hX]; exact ((Fr.refl [] w5).nw _ _).wr (.inr (Nat.le_refl _)) _
        have hXm : mm X (sz w5) = bs (sealOf (pinB p)) := by rw [hX, mm_wr_same]; simp [sM]
        have hstX : pStore P 90 (pt (sz w5) 0) (sec (sealOf (pinB p))) (nw w5 (bs (zb 64)) 90) = some X := by
          rw [hX]; try simp (maxDischargeDepth := 8) [↓sC, sB, sM, hsl]
        have hlX : pLoad P 90 (pt (sz w5) 0) X = some (sec (sealOf (pinB p)), X) := by
          rw [ld90 (by rw [hXm, bs_length]; omega), hXm, List.drop_zero, List.take_of_length_le (by rw [bs_length]; omega)]
        have q36 : Fr [] w3 X := (f4.trans0 f5).trans0 fX
        try simp (maxDischargeDepth := 8) [↓sC, sB, sM, hrm, hstX, hlX, -st90, -ld90]
        have hws := write_spec (x := (k : Int)) (s := sealOf (pinB p)) (hd3.fr0 q36) hsl (by omega) (by omega)
        refine hws.call ?_
        rintro _ w7 ⟨rfl, F7, hd7, f7, hF7⟩
        have g7 : Grow F w F7 w7 := ((g3.calm q36)).step f7 (fun k hk => hF7 k hk)
        obtain ⟨c2, hc2⟩ : ∃ c2, c2 = writeE D1 (k : Int) := ⟨_, rfl⟩
        rw [← hc2] at hput0 ⊢
        by_cases hc20 : c2 = 0
        · have d1 : (c2 = 0) = True := eq_true hc20
          rw [if_neg (by simp [hc20])] at hput0
          try simp (maxDischargeDepth := 8) [↓sC, sB, sM, d1]
          refine (sync_spec hd7).call ?_
          rintro _ w8 ⟨rfl, hd8, f8⟩
          try simp (maxDischargeDepth := 8) [↓sC, sB, sM]
          rw [hput0]
          exact ⟨rfl, F7, hd8, g7.same f8⟩
        · have d1 : (c2 = 0) = False := eq_false hc20
          rw [if_pos hc20] at hput0
          try simp (maxDischargeDepth := 8) [↓sC, sB, sM, d1]
          rw [hput0]
          exact ⟨rfl, F7, hd7, g7⟩
      · have d1 : (c1 = 0) = False := eq_false hc0
        rw [if_pos hc0] at hput0
        try simp (maxDischargeDepth := 8) [↓sC, sB, sM, d1]
        rw [hput0]
        exact ⟨rfl, F3, hd3, g3⟩
    · rw [if_neg hk]
      have hG : putM p D = (D, 1) := by unfold putM; rw [if_neg (by simp [hr]), if_pos hk]
      try simp (maxDischargeDepth := 8) [↓sC, sB, sM]
      rw [hG]
      exact ⟨rfl, F, h.fr0 q2, (Grow.refl F w).calm q2⟩
  · have d1 : (reachM D = 0) = False := eq_false hr
    have hG : putM p D = (D, reachM D) := by unfold putM; rw [if_pos hr]
    try simp (maxDischargeDepth := 8) [↓sC, sB, sM, d1]
    rw [hG]
    exact ⟨rfl, F, h.fr0 q1, (Grow.refl F w).calm q1⟩
end Go.Proofs.YtieejbkbdfccdaaGreat
set_option linter.unusedVariables false
set_option linter.unusedSimpArgs false
namespace Go.Proofs.YtieejbkbdfccdaaGreat
open Go
/-- What is told when so many sectors were looked at. -/
noncomputable def outJ (D : DD) (j : Nat) : PinP := if j = 0 then zPin else if j = 1 then (sideM 0 (ofM (view D 0))).getD zPin else (getM (view D 0) (view D 1)).getD zPin
theorem sideM_ok {k : Int} {s : List UInt8} {p : PinP} (h : sideM k (ofM s) = some p) : okPin p := ofM_ok (sideM_some h).1
theorem outJ0 (D : DD) : outJ D 0 = zPin := by unfold outJ; rw [if_pos rfl]
theorem outJ1 (D : DD) : outJ D 1 = (sideM 0 (ofM (view D 0))).getD zPin := by unfold outJ; rw [if_neg (by omega), if_pos rfl]
theorem outJ2 (D : DD) : outJ D 2 = (getM (view D 0) (view D 1)).getD zPin := by unfold outJ; rw [if_neg (by omega), if_neg (by omega)]
theorem out_step {D : DD} {j : Nat} (hj : j < 2) {q : PinP} (h : sideM (j : Int) (ofM (view D j)) = some q) : outJ D (j + 1) = if (outJ D j).s < q.s then q else outJ D j := by
  have hq := sideM_ok h
  have h1 := hq.1
  have hz : zPin.s < q.s := by show (0 : Int) < q.s; omega
  match j, hj with
  | 0, _ =>
    have h' : sideM 0 (ofM (view D 0)) = some q := h
    rw [outJ1, outJ0, h', if_pos hz]
    rfl
  | 1, _ =>
    have h' : sideM 1 (ofM (view D 1)) = some q := h
    rw [outJ2, outJ1]
    unfold getM
    rw [h']
    cases hx : sideM 0 (ofM (view D 0)) with
    | none =>
      simp only [newerM, Option.getD_some, Option.getD_none]
      rw [if_pos hz]
    | some x =>
      simp only [newerM, Option.getD_some]
      split <;> rfl
theorem out_keep {D : DD} {j : Nat} (hj : j < 2) (h : sideM (j : Int) (ofM (view D j)) = none) : outJ D (j + 1) = outJ D j := by
  match j, hj with
  | 0, _ =>
    have h' : sideM 0 (ofM (view D 0)) = none := h
    rw [outJ1, outJ0, h']
    rfl
  | 1, _ =>
    have h' : sideM 1 (ofM (view D 1)) = none := h
    rw [outJ2, outJ1]
    unfold getM
    rw [h']
    cases hx : sideM 0 (ofM (view D 0)) <;> rfl
def GetR (o : Option PinP) (x : Value) : Prop := (∃ q, o = some q ∧ x = .tuple #[pinV q, i64 0]) ∨ (o = none ∧ x = .tuple #[pinV zPin, i64 6])
theorem getM_ok {a b : List UInt8} {p : PinP} (h : getM a b = some p) : okPin p := by
  unfold getM at h
  cases hx : sideM 0 (ofM a) with
  | none =>
    rw [hx] at h
    have : sideM 1 (ofM b) = some p := h
    exact sideM_ok this
  | some x =>
    rw [hx] at h
    cases hy : sideM 1 (ofM b) with
    | none => rw [hy] at h; simp only [newerM, Option.some.injEq] at h; subst h; exact sideM_ok hx
    | some y =>
      rw [hy] at h
      simp only [newerM] at h
      split at h
      · simp only [Option.some.injEq] at h; subst h; exact sideM_ok hy
      · simp only [Option.some.injEq] at h; subst h; exact sideM_ok hx
def GtI (w : World) (b : Nat) (D : DD) (ob : Nat) (m : Nat) (e : Env) (w' : World) : Prop :=
  ∃ j : Nat, m = 2 - j ∧ j ≤ 2 ∧ Fr [] w w' ∧ mm w' (sz w) = pinL zPin ∧ fz w' (sz w) = false ∧ mm w' ob = pinL (outJ D j) ∧ fz w' ob = false ∧ e 0 = pt b 0 ∧ e 2 = pt (sz w) 0 ∧ e 5 = pt ob 0 ∧ e 19 = i64 j
theorem get_spec {w : World} {b : Nat} {D : DD} {F : List Nat} (h : IsD w b D F) (hr : reachM D = 0) : Ret P 13 #[pt b 0] w fun x w' => GetR (getM (view D 0) (view D 1)) x ∧ Fr [] w w' := by
  refine F13ok ?_
  unfold F13
  obtain ⟨hdn, hlen⟩ : D.down = false ∧ 2 ≤ D.firm.length := by
    unfold reachM at hr
    split at hr
    · simp at hr
    · rename_i hd
      split at hr
      · simp at hr
      · exact ⟨by simpa using hd, by omega⟩
  obtain ⟨W, hW⟩ : ∃ W, W = nw w (pinL zPin) 29 := ⟨_, rfl⟩
  have fW : Fr [] w W := by rw [hW]; exact (Fr.refl [] w).nw _ _
  have hWm : mm W (sz w) = pinL zPin := by rw [hW]; simp [sM]
  have hWz : fz W (sz w) = false := by rw [hW]; simp [sM]
  have hWs : sz W = sz w + 1 := by rw [hW]; simp [sM]
  unfold pinL zPin at hW
  try simp (maxDischargeDepth := 8) [↓sC, sB, sM, ← hW]
  refine (reached_spec (h.fr0 fW)).call ?_
  rintro _ w1 ⟨rfl, f1⟩
  rw [hr]
  have m1 : mm w1 (sz w) = pinL zPin := by rw [f1.mm (by omega) (by simp), hWm]
  have z1 : fz w1 (sz w) = false := by rw [f1.fz (by omega) (by simp), hWz]
  have s1 := f1.lt (show sz w < sz W by omega)
  obtain ⟨X, hX⟩ : ∃ X, X = nw w1 (pinL zPin) 29 := ⟨_, rfl⟩
  have fX : Fr [] w1 X := by rw [hX]; exact (Fr.refl [] w1).nw _ _
  have mX : mm X (sz w) = pinL zPin := by rw [fX.mm s1 (by simp), m1]
  have zX : fz X (sz w) = false := by rw [fX.fz s1 (by simp), z1]
  have oX : mm X (sz w1) = pinL zPin := by rw [hX]; simp [sM]
  have oXz : fz X (sz w1) = false := by rw [hX]; simp [sM]
  have gX := (fW.trans0 f1).trans0 fX
  unfold pinL zPin at hX
  try simp (maxDischargeDepth := 8) [↓sC, sB, sM, ← hX]
  have o0 : outJ D 0 = zPin := by unfold outJ; rw [if_pos rfl]
  refine loopE_of (GtI w b D (sz w1)) 2 ⟨0, by omega, by omega, gX, mX, zX, by rw [o0, oX], oXz, by simp [put_get, argE_get], by simp [put_get], by simp [put_get], by simp [put_get]⟩ ?_
  rintro m e w3 hI
  obtain ⟨j, hm, hj, g3, m3, z3, o3, y3, e0, e2, e5, e19⟩ := hI
  subst hm
  unfold F13B0
  have s3 := lt_of_fz z3
  have t3 := lt_of_fz y3
  by_cases hjl : j < 2
  · have t1 : (j < 2) = True := eq_true hjl
    have t2 : ((j : Int) < 2) = True := eq_true (by omega)
    have hok : okE D (j : Int) = 0 := by
      unfold okE
      rw [if_neg (by simp [hdn]), if_neg (by omega)]
    have hwj : IntKind.i64.wrap ((j : Int) + 1) = ((j + 1 : Nat) : Int) := wrap64 (by omega) (by omega)
    try simp (maxDischargeDepth := 8) [↓sC, sB, sM, e0, e19, t1, t2]
    refine (read_spec (x := (j : Int)) (h.fr0 g3) (by omega) (by omega)).call ?_
    rintro _ w4 ⟨rfl, f4⟩
    rw [hok, if_pos rfl]
    obtain ⟨s, hs⟩ : ∃ s, s = view D j := ⟨_, rfl⟩
    have hrs : readD D (j : Int) = s := by rw [hs]; rfl
    have hs64 : s.length = 64 := by rw [← hrs]; exact readD_len h.1 (by omega) (by omega)
    rw [hrs]
    obtain ⟨Y, hY⟩ : ∃ Y, Y = wr (nw w4 (bs (zb 64)) 90) (sz w4) (bs s) := ⟨_, rfl⟩
    have fY : Fr [] w4 Y := by rw [hY]; exact ((Fr.refl [] w4).nw _ _).wr (.inr (Nat.le_refl _)) _
    have hYm : mm Y (sz w4) = bs s := by rw [hY, mm_wr_same]; simp [sM]
    have hstY : pStore P 90 (pt (sz w4) 0) (sec s) (nw w4 (bs (zb 64)) 90) = some Y := by
      rw [hY]; try simp (maxDischargeDepth := 8) [↓sC, sB, sM, hs64]
    have hlY : pLoad P 90 (pt (sz w4) 0) Y = some (sec s, Y) := by
      rw [ld90 (by rw [hYm, bs_length]; omega), hYm, List.drop_zero, List.take_of_length_le (by rw [bs_length]; omega)]
    try simp (maxDischargeDepth := 8) [↓sC, sB, sM, hstY, hlY, -st90, -ld90]
    refine (open_spec hs64).call ?_
    rintro _ w5 ⟨f5, x, rfl, hx1, hx0⟩
    have f35 : Fr [] w3 w5 := (f4.trans0 fY).trans0 f5
    have fin : ∀ (e' : Env) (w' : World), Fr [] w w' → mm w' (sz w) = pinL zPin → fz w' (sz w) = false → mm w' (sz w1) = pinL (outJ D (j + 1)) → fz w' (sz w1) = false → e' 0 = pt b 0 → e' 2 = pt (sz w) 0 → e' 5 = pt (sz w1) 0 → e' 19 = i64 ((j + 1 : Nat) : Int) → ∃ m, m < 2 - j ∧ GtI w b D (sz w1) m e' w' := fun e' w' k1 k2 k3 k4 k5 k6 k7 k8 k9 => ⟨2 - (j + 1), by omega, j + 1, rfl, by omega, k1, k2, k3, k4, k5, k6, k7, k8, k9⟩
    by_cases hwh : isWhole s
    · have c0 : (isWhole s) = True := eq_true hwh
      have hof : ofM s = readP (pay s) := by unfold ofM; rw [if_pos hwh]
      try simp (maxDischargeDepth := 8) [↓sC, sB, sM, letK_def, c0]
      refine (pinRead_spec (hx1 hwh)).call ?_
      rintro _ w6 ⟨⟨q, bb, rfl, hq⟩, f6⟩
      rw [← hof] at hq
      obtain ⟨Z, hZ⟩ : ∃ Z, Z = wr (nw w6 (pinL zPin) 29) (sz w6) (pinL q) := ⟨_, rfl⟩
      have fZ : Fr [] w6 Z := by rw [hZ]; exact ((Fr.refl [] w6).nw _ _).wr (.inr (Nat.le_refl _)) _
      have hZm : mm Z (sz w6) = pinL q := by rw [hZ]; simp [sM]
      have hZs : sz Z = sz w6 + 1 := by rw [hZ]; simp [sM]
      have hstZ : pStore P 29 (pt (sz w6) 0) (pinV q) (nw w6 [Value.int .i64 0, Value.int .i64 0, Value.int .i64 0, Value.int .i64 0, Value.int .i64 0, Value.int .i64 0] 29) = some Z := by
        rw [hZ]; exact pst87 (by simp [sM]) (by simp [sM])
      have f3Z : Fr [] w3 Z := (f35.trans0 f6).trans0 fZ
      have mZ : mm Z (sz w) = pinL zPin := by rw [f3Z.mm s3 (by simp), m3]
      have zZ : fz Z (sz w) = false := by rw [f3Z.fz s3 (by simp), z3]
      have oZ : mm Z (sz w1) = pinL (outJ D j) := by rw [f3Z.mm t3 (by simp), o3]
      have yZ : fz Z (sz w1) = false := by rw [f3Z.fz t3 (by simp), y3]
      have hn1 : pLoad P 3 (pt (sz w6) 0) Z = some (i64 q.s, Z) := by rw [ld3 (by rw [hZm, pinL_len]; omega), hZm, pg0]
      have hn2 : pLoad P 3 (pt (sz w1) 0) Z = some (i64 (outJ D j).s, Z) := by rw [ld3 (by rw [oZ, pinL_len]; omega), oZ, pg0]
      have hlq : pLoad P 29 (pt (sz w6) 0) Z = some (pinV q, Z) := pld87 hZm
      have hso : pStore P 29 (pt (sz w1) 0) (pinV q) Z = some (wr Z (sz w1) (pinL q)) := pst87 (by rw [oZ]; rfl) yZ
      cases bb with
      | false =>
        have hk := out_keep hjl (by rw [← hs, hq]; rfl)
        try simp (maxDischargeDepth := 8) [↓sC, sB, sM, hstZ, -st29, e19, hwj, -Int.natCast_add]
        exact fin _ _ (g3.trans0 f3Z) mZ zZ (by rw [hk, oZ]) yZ (by simp [put_get, e0]) (by simp [put_get, e2]) (by simp [put_get, e5]) (by simp [put_get])
      | true =>
        have hkq : okPin q := ofM_ok (by rw [hq]; rfl)
        by_cases hp : q.s % 2 = (j : Int)
        · have hsd : sideM (j : Int) (ofM (view D j)) = some q := by rw [← hs, hq]; simp [sideM, hp]
          have ho := out_step hjl hsd
          have hrm := remP hkq hp
          by_cases hlt : (outJ D j).s < q.s
          · have c3 : ((outJ D j).s < q.s) = True := eq_true hlt
            rw [if_pos hlt] at ho
            try simp (maxDischargeDepth := 8) [↓sC, sB, sM, hstZ, e5, hn1, hn2, hrm, c3, hlq, hso, -st29, -ld29, -ld3, e19, hwj, -Int.natCast_add]
            exact fin _ _ ((g3.trans0 f3Z).wr (.inr (by omega)) _) (by rw [mm_wr_ne (by omega), mZ]) (by rw [fz_wr, zZ]) (by rw [mm_wr_same yZ, ho]) (by rw [fz_wr, yZ]) (by simp [put_get, e0]) (by simp [put_get, e2]) (by simp [put_get, e5]) (by simp [put_get])
          · have c3 : ((outJ D j).s < q.s) = False := eq_false hlt
            rw [if_neg hlt] at ho
            try simp (maxDischargeDepth := 8) [↓sC, sB, sM, hstZ, e5, hn1, hn2, hrm, c3, -st29, -ld29, -ld3, e19, hwj, -Int.natCast_add]
            exact fin _ _ (g3.trans0 f3Z) mZ zZ (by rw [ho, oZ]) yZ (by simp [put_get, e0]) (by simp [put_get, e2]) (by simp [put_get, e5]) (by simp [put_get])
        · have hk := out_keep hjl (by rw [← hs, hq]; simp [sideM, hp])
          obtain ⟨jj, hjj⟩ : ∃ jj : Int, q.s % 2 = jj := ⟨_, rfl⟩
          have hrm := remP hkq hjj
          have c3 : (jj = (j : Int)) = False := eq_false (by omega)
          try simp (maxDischargeDepth := 8) [↓sC, sB, sM, hstZ, hn1, hrm, c3, -st29, -ld29, -ld3, e19, hwj, -Int.natCast_add]
          exact fin _ _ (g3.trans0 f3Z) mZ zZ (by rw [hk, oZ]) yZ (by simp [put_get, e0]) (by simp [put_get, e2]) (by simp [put_get, e5]) (by simp [put_get])
    · have c0 : (isWhole s) = False := eq_false hwh
      have hk := out_keep hjl (by rw [← hs, ofM_bad hwh]; rfl)
      try simp (maxDischargeDepth := 8) [↓sC, sB, sM, letK_def, c0, e19, hwj, -Int.natCast_add]
      exact fin _ _ (g3.trans0 f35) (by rw [f35.mm s3 (by simp), m3]) (by rw [f35.fz s3 (by simp), z3]) (by rw [f35.mm t3 (by simp), o3, hk]) (by rw [f35.fz t3 (by simp), y3]) (by simp [put_get, e0]) (by simp [put_get, e2]) (by simp [put_get, e5]) (by simp [put_get])
  · have hje : j = 2 := by omega
    subst hje
    have o2 : outJ D 2 = (getM (view D 0) (view D 1)).getD zPin := by unfold outJ; rw [if_neg (by omega), if_neg (by omega)]
    have hn2 : pLoad P 3 (pt (sz w1) 0) w3 = some (i64 (outJ D 2).s, w3) := by rw [ld3 (by rw [o3, pinL_len]; omega), o3, pg0]
    have hl2 : pLoad P 29 (pt (sz w1) 0) w3 = some (pinV (outJ D 2), w3) := pld87 o3
    have hsr : ∀ q : PinP, pStore P 29 (pt (sz w) 0) (pinV q) w3 = some (wr w3 (sz w) (pinL q)) := fun q => pst87 (by rw [m3]; rfl) z3
    have hsz : pStore P 29 (pt (sz w) 0) (Value.agg #[Value.int .i64 0, Value.int .i64 0, Value.int .i64 0, Value.int .i64 0, Value.int .i64 0, Value.int .i64 0]) w3 = some (wr w3 (sz w) (pinL zPin)) := hsr zPin
    have hlr : ∀ q : PinP, pLoad P 29 (pt (sz w) 0) (wr w3 (sz w) (pinL q)) = some (pinV q, wr w3 (sz w) (pinL q)) := fun q => pld87 (by rw [mm_wr_same z3])
    have gF : ∀ l, Fr [] w (wr w3 (sz w) l) := fun l => g3.wr (.inr (Nat.le_refl _)) _
    cases hg : getM (view D 0) (view D 1) with
    | none =>
      rw [hg] at o2
      have os : (outJ D 2).s = 0 := by rw [o2]; rfl
      try simp (maxDischargeDepth := 8) [↓sC, sB, sM, e2, e5, e19, hn2, os, hsz, hlr, -st29, -ld29, -ld3]
      exact ⟨.inr ⟨rfl, rfl⟩, gF _⟩
    | some q =>
      rw [hg] at o2
      have hoq : outJ D 2 = q := o2
      have hkq := (getM_ok hg).1
      rw [hoq] at hn2 hl2
      have c3 : (q.s = 0) = False := eq_false (by omega)
      try simp (maxDischargeDepth := 8) [↓sC, sB, sM, e2, e5, e19, hn2, c3, hl2, hsr, hlr, -st29, -ld29, -ld3]
      exact ⟨.inl ⟨q, rfl, rfl⟩, gF _⟩
end Go.Proofs.YtieejbkbdfccdaaGreat
set_option linter.unusedVariables false
set_option linter.unusedSimpArgs false
namespace Go.Proofs.YtieejbkbdfccdaaGreat
open Go
theorem put_ok {w : World} {b N k : Nat} {D : DD} {F : List Nat} {p : PinP} (h : IsD w b D F) (hc : CalmN N D) (hp : D.pend = []) (hN : 2 ≤ N) (hk : okPin p) (hkk : p.s % 2 = (k : Int)) (hwr : D.writes ≤ 1000000) :
    Ret P 10 #[pt b 0, pinV p] w fun x w' => x = i64 0 ∧ ∃ D' F', IsD w' b D' F' ∧ Grow F w F' w' ∧ CalmN N D' ∧ D'.pend = [] ∧ (∀ i, view D' i = if i = k then sealOf (pinB p) else view D i) ∧ D'.writes ≤ D.writes + 2 := by
  obtain ⟨D', h1, h2, h3, h4, h5⟩ := put_calm hc hp hN hk hkk
  refine (pinPut_spec h (by rw [hp]; simp) (by omega)).mono ?_
  rintro x w' ⟨rfl, F', hd, hg⟩
  rw [h1] at hd ⊢
  exact ⟨rfl, D', F', hd, hg, h2, h3, h4, h5⟩
end Go.Proofs.YtieejbkbdfccdaaGreat

set_option linter.unusedVariables false
set_option linter.unusedSimpArgs false
namespace Go.Proofs.YtieejbkbdfccdaaGreat
open Go
/-- A disk that isn't down. -/
structure UpN (N : Nat) (D : DD) : Prop where
  down : D.down = false
  len : D.firm.length = N
  pend : ∀ p ∈ D.pend, 0 ≤ p.1 ∧ p.1 < D.firm.length
theorem UpN.ok {N : Nat} {D : DD} (h : UpN N D) {x : Nat} (hx : x < N) : okE D (x : Int) = 0 := by
  unfold okE
  rw [if_neg (by simp [h.down]), if_neg (by rw [h.len]; omega)]
theorem UpN.write {N : Nat} {D : DD} (h : UpN N D) {x : Nat} (hx : x < N) (hl : D.left ≠ 1) (s : List UInt8) : UpN N (writeD D (x : Int) s) ∧ writeE D (x : Int) = 0 ∧ (writeD D (x : Int) s).left = (if 0 < D.left then D.left - 1 else D.left) := by
  have ho := h.ok hx
  unfold writeD writeE
  rw [if_pos ho, if_pos ho, if_neg hl]
  refine ⟨⟨by simp [hl], h.len, fun p hp => ?_⟩, rfl, rfl⟩
  rcases List.mem_append.1 hp with hp | hp
  · exact h.pend p hp
  · rw [List.mem_singleton] at hp; subst hp
    exact ⟨by simp, by show (x : Int) < D.firm.length; rw [h.len]; omega⟩
theorem UpN.sync {N : Nat} {D : DD} (h : UpN N D) : UpN N (syncD D) ∧ (syncD D).pend = [] ∧ (∀ i, view (syncD D) i = view D i) ∧ (syncD D).left = D.left := by
  have hd : ¬ D.down = true := by simp [h.down]
  unfold syncD
  rw [if_neg hd]
  refine ⟨⟨h.down, by simp [syncF_len', h.len], by simp⟩, rfl, fun i => ?_, rfl⟩
  unfold view readD
  have := sync_view h.pend i
  simpa [lastW] using this
theorem up_view {N : Nat} {D : DD} (h : UpN N D) {k : Nat} (hk : k < N) (s : List UInt8) : ∀ i, view (writeD D (k : Int) s) i = if i = k then s else view D i := fun i => by
  rw [view_write (h.ok hk)]
  by_cases hi : i = k
  · subst hi; rw [if_pos rfl, if_pos rfl]
  · rw [if_neg (by omega), if_neg hi]
theorem viewE {D : DD} (h : D.pend = []) (i : Nat) : view D i = D.firm.getD i [] := by
  unfold view readD
  rw [h]
  simp [lastW]
theorem crash_none {N : Nat} {D : DD} (kept : List Int) (h : D.firm.length = N) (hp : D.pend = []) : CalmN N (crashD D kept) ∧ (crashD D kept).pend = [] ∧ (crashD D kept).writes = D.writes ∧ ∀ i, view (crashD D kept) i = view D i := by
  have hf : (crashD D kept).firm = D.firm := by show crashF kept D.firm 0 D.pend = D.firm; rw [hp]; rfl
  refine ⟨⟨rfl, rfl, by rw [hf, h], by intro p hp; simp [crashD] at hp⟩, rfl, rfl, fun i => ?_⟩
  rw [viewE rfl, viewE hp, hf]
theorem crash_one {N : Nat} {D : DD} (kept : List Int) (h : D.firm.length = N) {k : Nat} {t : List UInt8} (hk : k < N) (hp : D.pend = [((k : Int), t)]) : CalmN N (crashD D kept) ∧ (crashD D kept).pend = [] ∧ (crashD D kept).writes = D.writes ∧
    ∀ i, view (crashD D kept) i = if i = k then tear (D.firm.getD k []) t (clampN kept 0) else D.firm.getD i [] := by
  have hf : (crashD D kept).firm = D.firm.set k (tear (D.firm.getD k []) t (clampN kept 0)) := by show crashF kept D.firm 0 D.pend = _; rw [hp]; rfl
  refine ⟨⟨rfl, rfl, by rw [hf, List.length_set, h], by intro p hp; simp [crashD] at hp⟩, rfl, rfl, fun i => ?_⟩
  rw [viewE rfl, hf, List.getD_eq_getElem?_getD, List.getElem?_set]
  by_cases hi : k = i
  · subst hi; rw [if_pos rfl, if_pos rfl, if_pos (by omega)]; rfl
  · rw [if_neg hi, if_neg (fun h => hi h.symm), ← List.getD_eq_getElem?_getD]
theorem clamp64 (kept : List Int) (i : Nat) : clampN kept i ≤ 64 := by
  unfold clampN
  split
  · omega
  · omega
end Go.Proofs.YtieejbkbdfccdaaGreat
