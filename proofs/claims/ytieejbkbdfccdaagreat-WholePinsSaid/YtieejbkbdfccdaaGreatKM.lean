/- What a Reader's calls do: a value, or a Fault that is thrown. -/
import Derived.Test.YtieejbkbdfccdaaGreatSim
import Derived.Test.YtieejbkbdfccdaaGreatPrims4
import Derived.Test.YtieejbkbdfccdaaGreatTypes
import Derived.Test.YtieejbkbdfccdaaGreatKL
import Derived.Test.YtieejbkbdfccdaaGreatKF
import Derived.WideLaws
set_option linter.unusedVariables false
set_option linter.unusedSimpArgs false
namespace Go.Proofs.YtieejbkbdfccdaaGreat
open Go
abbrev faultV (c : Int) (k : Nat) : Value := .iface 131 (.agg #[i64 c, i64 k])
abbrev faultC (c : Int) (k : Nat) : List PanicEntry := [{ v := faultV c k, recovered := false }]
/-- At block 'b' lies a Reader of the slice 'v', whose bytes are 'B', of which 'k' were read. -/
structure IsRd (w : World) (b : Nat) (v : Value) (B : List UInt8) (k : Nat) : Prop where
  cell : mm w b = [v, i64 k]
  fz : fz w b = false
  rd : RdV w v B.length (bs B)
  le : k ≤ B.length
  ne : 0 < B.length → ∀ c, v.ownBlock = some c → c ≠ b
theorem RdV.len {w : World} {v : Value} {n : Nat} {cs : List Value} (h : RdV w v n cs) : n ≤ 9223372036854775807 := by
  rcases h with ⟨_, _, _, h0, _⟩ | ⟨_, _, _, _, h1, h2, _⟩
  · omega
  · have : maxLen = 9223372036854775807 := rfl
    omega
theorem rdb_fr {w w' : World} {S : List Nat} {v : Value} {B : List UInt8} (h : RdV w v B.length (bs B)) (hf : Fr S w w') (hS : 0 < B.length → ∀ b, v.ownBlock = some b → b < sz w → b ∉ S) : RdV w' v B.length (bs B) := by
  by_cases hn : 0 < B.length
  · rcases h with h | ⟨b, o, c, rfl, h1, h2, h3, h4, h5⟩
    · exact .inl h
    · have hm := hf.mm h3 (hS hn b rfl h3)
      exact .inr ⟨b, o, c, rfl, h1, h2, hf.lt h3, by rw [hm]; exact h4, by rw [hm]; exact h5⟩
  · have h0 : B = [] := List.eq_nil_of_length_eq_zero (by omega)
    subst h0
    obtain ⟨a, c, rfl⟩ := sl_of h
    exact .inl ⟨a, c, rfl, rfl, rfl⟩
theorem rdb_lt {w : World} {v : Value} {B : List UInt8} (h : RdV w v B.length (bs B)) (h0 : 0 < B.length) {c : Nat} (hc : v.ownBlock = some c) : c < sz w := by
  rcases h with ⟨_, _, _, h1, _⟩ | ⟨b, o, cc, rfl, _, _, h3, _⟩
  · omega
  · simp [Value.ownBlock] at hc; omega
theorem IsRd.fr {w w' : World} {b : Nat} {v : Value} {B : List UInt8} {k : Nat} {S : List Nat} (h : IsRd w b v B k) (hf : Fr S w w') (hb : b ∉ S) (hv : 0 < B.length → ∀ c, v.ownBlock = some c → c < sz w → c ∉ S) : IsRd w' b v B k := by
  have hlt := lt_of_fz h.fz
  exact ⟨by rw [hf.mm hlt hb, h.cell], by rw [hf.fz hlt hb, h.fz], rdb_fr h.rd hf hv, h.le, h.ne⟩
theorem IsRd.fr0 {w w' : World} {b : Nat} {v : Value} {B : List UInt8} {k : Nat} (h : IsRd w b v B k) (hf : Fr [] w w') : IsRd w' b v B k := h.fr hf (by simp) (by simp)
theorem IsRd.at_ {w : World} {b : Nat} {v : Value} {B : List UInt8} {k k' : Nat} (h : IsRd w b v B k) (hk : k' ≤ B.length) : IsRd (wr w b [v, i64 k']) b v B k' :=
  ⟨mm_wr_same h.fz _, by rw [fz_wr, h.fz], rdb_fr h.rd ((Fr.refl [b] w).wr (.inl (by simp)) _) (fun h0 c hc _ => by simpa using h.ne h0 c hc), hk, h.ne⟩
/-- A call that reads: 'r' is what, how many bytes, and the error's number. -/
def Rd {α : Type} (f : FuncId) (args : Array Value) (w : World) (b : Nat) (v : Value) (B : List UInt8) (k : Nat) (enc : α → Value) (r : α × Nat × Nat) : Prop :=
  Thr P f args w (fun x w' => r.2.2 = 0 ∧ x = enc r.1 ∧ IsRd w' b v B (k + r.2.1) ∧ Fr [b] w w') (fun c w' => r.2.2 ≠ 0 ∧ c = faultC r.2.2 (k + r.2.1) ∧ Fr [b] w w')
theorem concrete44 : P.concrete 131 = true := by kernel_rfl
theorem pIface44 {w : World} {v : Value} : pIface P 131 v w = some (.iface 131 v, w) := pIface_eq concrete44
theorem fail_spec {w : World} {b : Nat} {v : Value} {B : List UInt8} {k : Nat} {c : Int} (h : IsRd w b v B k) : Thr P 83 #[pt b 0, i64 c] w (fun _ _ => False) (fun ch w' => ch = faultC c k ∧ w' = w) := by
  refine F83ok ?_
  unfold F83
  try simp (maxDischargeDepth := 8) [↓sC, sB, sM, h.cell, pIface44, panicE_iface]
def pkoneM : List UInt8 → UInt8 × Nat × Nat
  | [] => (0, 0, 2)
  | x :: _ => (x, 1, 0)
theorem drop_gb {B : List UInt8} {k : Nat} (h : k < B.length) : B.drop k = gb B k :: B.drop (k + 1) := by
  rw [List.drop_eq_getElem_cons h]
  simp [gb, h]
theorem pkone_spec {w : World} {b : Nat} {v : Value} {B : List UInt8} {k : Nat} (h : IsRd w b v B k) : Rd 100 #[pt b 0] w b v B k bv (pkoneM (B.drop k)) := by
  refine F100ok ?_
  unfold F100
  obtain ⟨a, c, hv⟩ := sl_of h.rd
  have hv1 : v.oneCell' = true := by rw [hv]; rfl
  have hlen := h.rd.len
  have hle := h.le
  have hd := h.fr0 (Fr.refl [] w).drew
  have h0 := h.cell
  subst hv
  by_cases hk : k < B.length
  · have hki : ¬ (B.length : Int) ≤ k := by omega
    have hki2 : ¬ B.length ≤ k := by omega
    have hwr : IntKind.i64.wrap ((k : Int) + 1) = ((k + 1 : Nat) : Int) := wrap64 (by omega) (by omega)
    rw [drop_gb hk]
    have hn := (hd.at_ (k' := k + 1) (by omega)).rd
    rcases id hn with ⟨_, _, _, hz, _⟩ | ⟨ab, ao, ac, hv, h1, h2, h3, h4, h5⟩
    · omega
    · rw [hv] at hn h0 h hd ⊢
      have hwr2 : IntKind.i64.wrap (((k + 1 : Nat) : Int) - 1) = (k : Int) := wrap64 (by omega) (by omega) |>.trans (by omega)
      have hcell := hn.cell (j := k) (by simpa using hk)
      have hg : (bs B).getD k undef = bv (gb B k) := gt_bs hk
      have hkb : (k : Int) < B.length := by omega
      have hgt : gt (mm (wr (drew w) b [sl ab ao B.length ac, i64 (k + 1 : Nat)]) ab) (ao + k) = bv (gb B k) := hcell.2.trans hg
      obtain ⟨W, hW⟩ : ∃ W, W = wr (drew w) b [sl ab ao B.length ac, i64 (k + 1 : Nat)] := ⟨_, rfl⟩
      have hmW : mm W b = [sl ab ao B.length ac, i64 (k + 1 : Nat)] := by rw [hW]; exact mm_wr_same hd.fz _
      rw [← hW] at hcell hgt hn
      obtain ⟨q, hq⟩ : ∃ q : Int, q = ((k + 1 : Nat) : Int) := ⟨_, rfl⟩
      rw [← hq] at hW hmW hwr hwr2
      try simp (maxDischargeDepth := 8) [↓sC, sB, sM, h0, h.fz, hki, hki2, hwr, ← hW, hmW, hwr2, hkb, hk, hcell.1, hgt]
      rw [hq] at hW
      refine ⟨rfl, rfl, ?_, ?_⟩
      · rw [hW]; exact (hd.at_ (k' := k + 1) (by omega)).fr0 (Fr.refl [] _).drew
      · rw [hW]; exact ((Fr.refl [b] w).drew.wr (.inl (by simp)) _).drew
  · have hki : (B.length : Int) ≤ k := by omega
    have hki2 : B.length ≤ k := by omega
    rw [List.drop_eq_nil_of_le hki2]
    try simp (maxDischargeDepth := 8) [↓sC, sB, sM, h0, hki, hki2]
    refine (fail_spec (h.fr0 (Fr.refl [] w).drew)).call (fun _ _ hf => hf.elim) ?_
    rintro c w' ⟨rfl, rfl⟩
    try simp (maxDischargeDepth := 8) [↓sC, sB, sM, pkoneM]
theorem pkleft_spec {w : World} {b : Nat} {v : Value} {B : List UInt8} {k : Nat} (h : IsRd w b v B k) : Ret P 84 #[pt b 0] w fun r w' => r = i64 ((B.length - k : Nat) : Int) ∧ Fr [] w w' := by
  refine F84ok ?_
  unfold F84
  obtain ⟨a, c, hv⟩ := sl_of h.rd
  subst hv
  have hlen := h.rd.len
  have hle := h.le
  have hwr : IntKind.i64.wrap ((B.length : Int) - k) = ((B.length - k : Nat) : Int) := wrap64 (by omega) (by omega) |>.trans (by omega)
  obtain ⟨q, hq⟩ : ∃ q : Int, q = ((B.length - k : Nat) : Int) := ⟨_, rfl⟩
  rw [← hq] at hwr ⊢
  simp (maxDischargeDepth := 8) [↓sC, sB, sM, h.cell, hwr]
theorem and127 (x : UInt8) : (x &&& 127).toNat = x.toNat % 128 := by
  have h : ∀ m : Nat, m < 256 → m &&& 127 = m % 128 := by decide +kernel
  rw [UInt8.toNat_and]
  exact h _ x.toNat_lt
theorem or_shift {n i y : Nat} (h : n < 128 ^ i) : n ||| (y * 2 ^ (7 * i)) = n + y * 128 ^ i := by
  have e : (2 : Nat) ^ (7 * i) = 128 ^ i := by rw [Nat.pow_mul]
  have := Nat.two_pow_add_eq_or_of_lt (i := 7 * i) (b := n) (by rw [e]; exact h) y
  rw [Nat.or_comm, Nat.mul_comm y, ← this, e, Nat.mul_comm, Nat.add_comm]
def RU (w : World) (b : Nat) (v : Value) (B : List UInt8) (k : Nat) (m : Nat) (e : Env) (w' : World) : Prop :=
  ∃ (i n : Nat) (s : Int), m = B.length - (k + i) ∧ i ≤ 9 ∧ n < 128 ^ i ∧ s = 7 * (i : Int) ∧ IsRd w' b v B (k + i) ∧ Fr [b] w w' ∧ numGo n i (B.drop (k + i)) = num (B.drop k) ∧ e 0 = pt b 0 ∧ e 3 = u64 n ∧ e 4 = i64 s
theorem rU_spec {w : World} {b : Nat} {v : Value} {B : List UInt8} {k : Nat} (h : IsRd w b v B k) : Rd 82 #[pt b 0] w b v B k u64 (num (B.drop k)) := by
  refine F82ok ?_
  unfold F82
  refine loopE_of (RU w b v B k) (B.length - k) ⟨0, 0, 0, rfl, by omega, by omega, by omega, h, Fr.refl _ _, rfl, by simp [put_get, argE_get], by simp [put_get], by simp [put_get]⟩ ?_
  rintro m e w1 ⟨i, n, s, hm, hi, hn, hs, hr, hf, hnum, e0, e3, e4⟩
  subst hm
  unfold F82B0
  try simp (maxDischargeDepth := 8) [↓sC, sB, sM, e0]
  refine (pkone_spec hr).call ?_ ?_
  · rintro _ w2 ⟨h1, rfl, hr2, hf2⟩
    by_cases hk : k + i < B.length
    · rw [drop_gb hk] at hnum h1 hr2 ⊢
      generalize gb B (k + i) = x at *
      simp only [pkoneM] at hr2 ⊢
      have g2 : Fr [b] w w2 := hf.trans hf2 (by simp)
      have hx := x.toNat_lt
      have hfail : ∀ {w3 : World} {c : Nat} {z : Nat}, Fr [] w2 w3 → numGo n i (x :: B.drop (k + i + 1)) = (0, z, c) → c ≠ 0 → z = i + 1 → ∀ ch w', (ch = faultC c (k + i + 1) ∧ w' = w3) →
          ((num (B.drop k)).2.2 ≠ 0 ∧ ch = faultC (num (B.drop k)).2.2 (k + (num (B.drop k)).2.1) ∧ Fr [b] w w') := by
        rintro w3 c z hf3 hz hc rfl ch w' ⟨rfl, rfl⟩
        rw [← hnum, hz]
        exact ⟨hc, by simp only [Nat.add_assoc], g2.trans0 hf3⟩
      have hand : ∀ w, pBin P .and 5 true (bv x) (Value.int .u8 127) w = some (bv (x &&& 127), w) := fun w => pAnd8 (x := x) (y := 127)
      have hcv : ∀ w, pConv P 5 127 (bv (x &&& 127)) w = some (u64 (x.toNat % 128), w) := fun w => by
        rw [pConv_int tyOk5 intK127, and127, wrapu (by unfold H63; omega)]
      by_cases hbad : i = 9 ∧ 1 < x.toNat
      · have hz : numGo n i (x :: B.drop (k + i + 1)) = (0, 10, 1) := by rw [numGo, if_pos hbad]
        have hs63 : s = 63 := by omega
        have hx1 : (1 : Int) < x.toNat := by omega
        try simp (maxDischargeDepth := 8) [↓sC, sB, sM, e0, e4, hs63, hx1, hbad.2]
        refine (fail_spec hr2).call (fun _ _ hF => hF.elim) ?_
        intro ch w' hch
        try simp (maxDischargeDepth := 8) [↓sC, sB, sM]
        exact hfail (Fr.refl _ _) hz (by omega) (by omega) ch w' hch
      · have hz0 : numGo n i (x :: B.drop (k + i + 1)) = if x.toNat < 128 then (if x.toNat = 0 ∧ 0 < i then (0, i + 1, 4) else (n + x.toNat * 128 ^ i, i + 1, 0)) else numGo (n + (x.toNat % 128) * 128 ^ i) (i + 1) (B.drop (k + i + 1)) := by
          rw [numGo, if_neg hbad]
        have h128 : (2 : Nat) ^ (7 * i) = 128 ^ i := by rw [Nat.pow_mul]
        have hb9 : 128 ^ i ≤ 128 ^ 9 := Nat.pow_le_pow_right (by omega) hi
        have hb9' : (128 : Nat) ^ 9 = H63 := by decide
        have hy : x.toNat % 128 * 2 ^ (7 * i) < 2 * H63 := by
          rw [h128]
          by_cases hi9 : i = 9
          · subst hi9
            have hx1 : x.toNat % 128 ≤ 1 := by
              have : ¬ 1 < x.toNat := fun h => hbad ⟨rfl, h⟩
              omega
            rw [hb9']
            have := Nat.mul_le_mul_right H63 hx1
            have hH : 0 < H63 := by decide
            omega
          · have h8 : 128 ^ i ≤ 128 ^ 8 := Nat.pow_le_pow_right (by omega) (by omega)
            have h1 : x.toNat % 128 * 128 ^ i ≤ 127 * 128 ^ 8 := Nat.mul_le_mul (by omega) h8
            have h2 : 127 * 128 ^ 8 < 2 * H63 := by decide
            omega
        have hs7 : s.toNat = 7 * i := by omega
        have hsh : ∀ w, pBin P .shl 127 false (u64 (x.toNat % 128)) (i64 s) w = some (u64 (x.toNat % 128 * 2 ^ (7 * i)), w) := fun w => by
          have := pShlU (P := P) (t := 127) (w := w) (lit := false) (a := x.toNat % 128) (k := .i64) (y := s) (by omega) (by omega) (by rw [hs7]; exact hy)
          rw [hs7] at this
          exact this
        obtain ⟨n', hn'⟩ : ∃ n', n' = n + (x.toNat % 128) * 128 ^ i := ⟨_, rfl⟩
        have hor : ∀ w, pBin P .or 127 false (u64 n) (u64 (x.toNat % 128 * 2 ^ (7 * i))) w = some (u64 n', w) := fun w => by
          rw [pOrU (by omega) hy, or_shift hn, hn']
        generalize x.toNat % 128 * 2 ^ (7 * i) = y at hsh hor
        rw [← hn'] at hz0
        have A : ((s = 63) = True ∧ (1 < x.toNat) = False ∧ ((1 : Int) < x.toNat) = False) ∨ ((s = 63) = False ∧ (i = i) ∧ (i = i)) := by
          by_cases hs63 : s = 63
          · have h9 : ¬ 1 < x.toNat := fun h => hbad ⟨by omega, h⟩
            exact .inl ⟨eq_true hs63, eq_false h9, eq_false (by omega)⟩
          · exact .inr ⟨eq_false hs63, rfl, rfl⟩
        have hwr : IntKind.i64.wrap (s + 7) = s + 7 := wrap64 (by omega) (by omega)
        rcases A with ⟨a1, a2, a3⟩ | ⟨a1, a2, a3⟩
        all_goals
          by_cases hx128 : x.toNat < 128
          · have b1 : ((128 : Int) ≤ x.toNat) = False := eq_false (by omega)
            have b2 : (128 ≤ x.toNat) = False := eq_false (by omega)
            rw [if_pos hx128] at hz0
            by_cases hzero : x.toNat = 0 ∧ 0 < i
            · rw [if_pos hzero] at hz0
              have c1 : (x = 0) = True := eq_true (UInt8.toNat_inj.1 (by rw [hzero.1]; rfl))
              have c2 : ((0 : Int) < s) = True := eq_true (by omega)
              try simp (maxDischargeDepth := 8) [↓sC, sB, sM, e0, e3, e4, a1, a2, a3, b1, b2, c1, c2, hand, hcv, hsh, hor]
              refine (fail_spec hr2).call (fun _ _ hF => hF.elim) ?_
              intro ch w' hch
              try simp (maxDischargeDepth := 8) [↓sC, sB, sM]
              exact hfail (Fr.refl _ _) hz0 (by omega) rfl ch w' hch
            · rw [if_neg hzero] at hz0
              have hfin : (num (B.drop k)).2.2 = 0 ∧ (n' : Int) = ((num (B.drop k)).1 : Int) ∧ IsRd w2 b v B (k + (num (B.drop k)).2.1) ∧ Fr [b] w w2 := by
                rw [← hnum, hz0]
                refine ⟨rfl, ?_, by simpa [Nat.add_assoc] using hr2, g2⟩
                rw [hn', Nat.mod_eq_of_lt hx128]
              by_cases hx0 : x = 0
              · have c1 : (x = 0) = True := eq_true hx0
                have c2 : ((0 : Int) < s) = False := eq_false (by
                  intro h0
                  refine hzero ⟨by rw [hx0]; rfl, by omega⟩)
                try simp (maxDischargeDepth := 8) [↓sC, sB, sM, e0, e3, e4, a1, a2, a3, b1, b2, c1, c2, hand, hcv, hsh, hor]
                exact hfin
              · have c1 : (x = 0) = False := eq_false hx0
                try simp (maxDischargeDepth := 8) [↓sC, sB, sM, e0, e3, e4, a1, a2, a3, b1, b2, c1, hand, hcv, hsh, hor]
                exact hfin
          · have b1 : ((128 : Int) ≤ x.toNat) = True := eq_true (by omega)
            have b2 : (128 ≤ x.toNat) = True := eq_true (by omega)
            rw [if_neg hx128] at hz0
            have hi8 : i < 9 := by
              rcases Nat.lt_or_ge i 9 with h | h
              · exact h
              · exact absurd ⟨by omega, by omega⟩ hbad
            have hn2 : n' < 128 ^ (i + 1) := by
              have h1 : x.toNat % 128 * 128 ^ i ≤ 127 * 128 ^ i := Nat.mul_le_mul_right _ (by omega)
              have h2 : 128 ^ (i + 1) = 128 * 128 ^ i := by rw [Nat.pow_succ, Nat.mul_comm]
              omega
            try simp (maxDischargeDepth := 8) [↓sC, sB, sM, e0, e3, e4, a1, a2, a3, b1, b2, hand, hcv, hsh, hor, hwr]
            refine ⟨B.length - (k + (i + 1)), by omega, i + 1, n', s + 7, rfl, by omega, hn2, by omega, hr2, g2, ?_, by simp [put_get, e0], by simp [put_get], by simp [put_get]⟩
            rw [← hnum, hz0]
            rfl
    · have hnil : B.drop (k + i) = [] := List.drop_eq_nil_of_le (by omega)
      rw [hnil] at h1
      simp [pkoneM] at h1
  · rintro ch w2 ⟨h1, rfl, hf2⟩
    have hk : ¬ k + i < B.length := by
      intro hk
      rw [drop_gb hk] at h1
      exact h1 rfl
    have hnil : B.drop (k + i) = [] := List.drop_eq_nil_of_le (by omega)
    rw [hnil] at hnum ⊢
    simp only [numGo] at hnum
    try simp (maxDischargeDepth := 8) [↓sC, sB, sM, pkoneM]
    rw [← hnum]
    exact ⟨by simp, by simp, hf.trans hf2 (by simp)⟩
theorem zag_bits (n : Nat) (hn : n < 2 * H63) :
    (BitVec.ofInt 64 (IntKind.i64.wrap ((n / 2 : Nat) : Int)) ^^^ BitVec.ofInt 64 (IntKind.i64.wrap (0 - IntKind.i64.wrap ((n &&& 1 : Nat) : Int)))).toInt = zag n := by
  have hH : 2 * H63 = 18446744073709551616 := by decide
  rw [hH] at hn
  have h1 : n &&& 1 = n % 2 := Nat.and_one_is_mod n
  have e1 : IntKind.i64.wrap ((n / 2 : Nat) : Int) = ((n / 2 : Nat) : Int) := wrap64 (by omega) (by omega)
  rw [h1, e1]
  unfold zag
  by_cases hp : n % 2 = 1
  · rw [if_pos hp, hp]
    have e2 : BitVec.ofInt 64 (IntKind.i64.wrap (0 - IntKind.i64.wrap ((1 : Nat) : Int))) = BitVec.allOnes 64 := by decide
    have e3 : ∀ x : BitVec 64, x ^^^ BitVec.allOnes 64 = ~~~ x := fun x => by rw [BitVec.xor_comm, BitVec.allOnes_xor]
    rw [e2, e3, BitVec.toInt_not, BitVec.toNat_ofInt]
    have e4 : (((n / 2 : Nat) : Int) % ((2 ^ 64 : Nat) : Int)).toNat = n / 2 := by omega
    rw [e4]
    simp only [Int.bmod]
    omega
  · have hp0 : n % 2 = 0 := by omega
    rw [if_neg hp, hp0]
    have e2 : BitVec.ofInt 64 (IntKind.i64.wrap (0 - IntKind.i64.wrap ((0 : Nat) : Int))) = 0 := by decide
    have e3 : ∀ x : BitVec 64, x ^^^ 0 = x := fun x => by simp
    rw [e2, e3, BitVec.toInt_ofInt]
    simp only [Int.bmod]
    omega
theorem num_lt {l : List UInt8} (h : (num l).2.2 = 0) : (num l).1 < 2 * H63 := by
  have key : ∀ (l : List UInt8) (n i : Nat), i ≤ 9 → n < 128 ^ i → (numGo n i l).2.2 = 0 → (numGo n i l).1 < 2 * H63 := by
    intro l
    induction l with
    | nil => intro n i _ _ h; simp [numGo] at h
    | cons x r ih =>
      intro n i hi hn h
      have hx := x.toNat_lt
      rw [numGo] at h ⊢
      by_cases hbad : i = 9 ∧ 1 < x.toNat
      · rw [if_pos hbad] at h; simp at h
      · rw [if_neg hbad] at h ⊢
        have h9 : (128 : Nat) ^ 9 = H63 := by decide
        by_cases hx128 : x.toNat < 128
        · rw [if_pos hx128] at h ⊢
          by_cases hz : x.toNat = 0 ∧ 0 < i
          · rw [if_pos hz] at h; simp at h
          · rw [if_neg hz]
            show n + x.toNat * 128 ^ i < 2 * H63
            by_cases hi9 : i = 9
            · subst hi9
              have hx1 : x.toNat ≤ 1 := by
                have : ¬ 1 < x.toNat := fun h => hbad ⟨rfl, h⟩
                omega
              have := Nat.mul_le_mul_right (128 ^ 9) hx1
              omega
            · have h8 : 128 ^ i ≤ 128 ^ 8 := Nat.pow_le_pow_right (by omega) (by omega)
              have h1 : x.toNat * 128 ^ i ≤ 127 * 128 ^ 8 := Nat.mul_le_mul (by omega) h8
              have h2 : 128 ^ 8 + 127 * 128 ^ 8 < 2 * H63 := by decide
              omega
        · rw [if_neg hx128] at h ⊢
          have hi8 : i < 9 := by
            rcases Nat.lt_or_ge i 9 with h | h
            · exact h
            · exact absurd ⟨by omega, by omega⟩ hbad
          refine ih _ (i + 1) (by omega) ?_ h
          have h1 : x.toNat % 128 * 128 ^ i ≤ 127 * 128 ^ i := Nat.mul_le_mul_right _ (by omega)
          have h2 : 128 ^ (i + 1) = 128 * 128 ^ i := by rw [Nat.pow_succ, Nat.mul_comm]
          omega
  exact key l 0 0 (by omega) (by omega) h
theorem zag_range {n : Nat} (hn : n < 2 * H63) : -9223372036854775808 ≤ zag n ∧ zag n < 9223372036854775808 := by
  have hH : 2 * H63 = 18446744073709551616 := by decide
  rw [hH] at hn
  unfold zag; split <;> omega
theorem bitsi_xor (x y : Int) : (Op.intBits .xor .i64 x y : Sem Value) = pure (.int .i64 (IntKind.i64.wrap (BitVec.ofInt 64 x ^^^ BitVec.ofInt 64 y).toNat)) := rfl
theorem wrap_toNat (x : BitVec 64) : IntKind.i64.wrap (x.toNat : Int) = x.toInt := by
  have := x.isLt
  rw [BitVec.toInt_eq_toNat_cond]
  unfold IntKind.wrap
  simp only [IntKind.bits, IntKind.signed, Bool.true_and, ge_iff_le, decide_eq_true_eq]
  split <;> split <;> omega
theorem rI_spec {w : World} {b : Nat} {v : Value} {B : List UInt8} {k : Nat} (h : IsRd w b v B k) : Rd 87 #[pt b 0] w b v B k (fun n => i64 (zag n)) (num (B.drop k)) := by
  refine F87ok ?_
  unfold F87
  refine (rU_spec h).call ?_ ?_
  · rintro _ w1 ⟨h1, rfl, hr, hf⟩
    have hn := num_lt h1
    generalize num (B.drop k) = r at *
    obtain ⟨n, z, c⟩ := r
    simp only at h1 hr hn ⊢
    have hsh : ∀ w, pBin P .shr 127 true (u64 n) (Value.int .u64 1) w = some (u64 (n / 2), w) := fun w => by
      have := pShrU (P := P) (t := 127) (w := w) (lit := true) (a := n) (k := .u64) (y := 1) (by omega) (by omega)
      simpa using this
    have han : ∀ w, pBin P .and 127 true (u64 n) (Value.int .u64 1) w = some (u64 (n &&& 1), w) := fun w => pAndU (a := n) (b := 1) hn (by decide)
    have hc : ∀ (m : Nat) w, pConv P 127 2 (u64 m) w = some (i64 (IntKind.i64.wrap m), w) := fun m w => pConv_int tyOk127 intK2
    have hxor : ∀ w, pBin P .xor 2 false (i64 (IntKind.i64.wrap ((n / 2 : Nat) : Int))) (i64 (IntKind.i64.wrap (0 - IntKind.i64.wrap ((n &&& 1 : Nat) : Int)))) w = some (i64 (zag n), w) := fun w => by
      refine pBin_bits ?_ (.inr (.inr (.inl rfl)))
      rw [bitsi_xor, wrap_toNat, zag_bits n hn]
      rfl
    generalize n / 2 = n2 at hsh hxor
    generalize n &&& 1 = n1 at han hxor
    obtain ⟨x2, hx2⟩ : ∃ x2, x2 = IntKind.i64.wrap (n2 : Int) := ⟨_, rfl⟩
    obtain ⟨x1, hx1⟩ : ∃ x1, x1 = IntKind.i64.wrap (n1 : Int) := ⟨_, rfl⟩
    obtain ⟨y1, hy1⟩ : ∃ y1, y1 = IntKind.i64.wrap (0 - x1) := ⟨_, rfl⟩
    have hneg : ∀ w, pUn P .neg (i64 x1) w = some (i64 y1, w) := fun w => by rw [hy1]; exact pUn_neg
    rw [← hx2, ← hx1, ← hy1] at hxor
    simp only [↓sC, sB, sM, hsh, han, cv2, tyOk127, ← hx2, ← hx1, hneg, hxor]
    exact ⟨h1, trivial, hr, hf⟩
  · rintro ch w1 hx
    try simp (maxDischargeDepth := 8) [↓sC, sB, sM]
    exact hx
/-- A place, read of eight bytes. -/
def placeM : Nat → Nat → List UInt8 → Nat × Nat × Nat
  | 0, k, _ => (k, 0, 0)
  | n + 1, k, [] => (0, 0, 2)
  | n + 1, k, x :: r => let q := placeM n (k * 256 + x.toNat) r; (q.1, q.2.1 + 1, q.2.2)
def floatM (l : List UInt8) : Nat × Nat × Nat :=
  let q := placeM 8 0 l
  if q.2.2 ≠ 0 then q else if key (backB q.1) = q.1 then (backB q.1, q.2.1, 0) else (0, q.2.1, 4)
theorem placeM_lt : ∀ (n k : Nat) (l : List UInt8) (m : Nat), k < 256 ^ m → (placeM n k l).2.2 = 0 → (placeM n k l).1 < 256 ^ (m + n) := by
  intro n
  induction n with
  | zero => intro k l m hk _; exact hk
  | succ n ih =>
    intro k l m hk h
    cases l with
    | nil => simp [placeM] at h
    | cons x r =>
      simp only [placeM] at h ⊢
      have hx := x.toNat_lt
      have := ih (k * 256 + x.toNat) r (m + 1) (by rw [Nat.pow_succ]; omega) h
      have e : m + (n + 1) = m + 1 + n := by omega
      rw [e]; exact this
def RF (w : World) (b : Nat) (v : Value) (B : List UInt8) (k : Nat) (m : Nat) (e : Env) (w' : World) : Prop :=
  ∃ (i n : Nat), m + i = 8 ∧ n < 256 ^ i ∧ IsRd w' b v B (k + i) ∧ Fr [b] w w' ∧ (placeM 8 0 (B.drop k)).1 = (placeM m n (B.drop (k + i))).1 ∧ (placeM 8 0 (B.drop k)).2.1 = (placeM m n (B.drop (k + i))).2.1 + i ∧
    (placeM 8 0 (B.drop k)).2.2 = (placeM m n (B.drop (k + i))).2.2 ∧ e 0 = pt b 0 ∧ e 3 = u64 n ∧ e 6 = i64 i
theorem rF_spec {w : World} {b : Nat} {v : Value} {B : List UInt8} {k : Nat} (h : IsRd w b v B k) : Rd 88 #[pt b 0] w b v B k fl (floatM (B.drop k)) := by
  refine F88ok ?_
  unfold F88
  refine loopE_of (RF w b v B k) 8 ⟨0, 0, rfl, by omega, h, Fr.refl _ _, rfl, rfl, rfl, by simp [put_get, argE_get], by simp [put_get], by simp [put_get]⟩ ?_
  rintro m e w1 ⟨i, n, hm, hn, hr, hf, hp1, hp2, hp3, e0, e3, e6⟩
  unfold F88B0
  have h256 : (256 : Nat) ^ 8 = 2 * H63 := by decide
  cases m with
  | zero =>
    have hi : i = 8 := by omega
    subst hi
    simp only [placeM] at hp1 hp2 hp3
    have hn8 : n < 2 * H63 := by omega
    try simp (maxDischargeDepth := 8) [↓sC, sB, sM, e0, e3, e6]
    refine (back_spec hn8).call ?_
    rintro _ w2 ⟨rfl, hf2⟩
    have hr2 := hr.fr0 hf2
    by_cases hkk : key (backB n) = n
    · try simp (maxDischargeDepth := 8) [↓sC, sB, sM, e0, hkk]
      have : floatM (B.drop k) = (backB n, 8, 0) := by
        unfold floatM
        simp only [hp1, hp2, hp3]
        simp [hkk]
      rw [this]
      exact ⟨rfl, rfl, hr2, hf.trans0 hf2⟩
    · have : floatM (B.drop k) = (0, 8, 4) := by
        unfold floatM
        simp only [hp1, hp2, hp3]
        simp [hkk]
      rw [this]
      try simp (maxDischargeDepth := 8) [↓sC, sB, sM, e0, hkk]
      refine (fail_spec hr2).call (fun _ _ hF => hF.elim) ?_
      rintro ch w3 ⟨rfl, rfl⟩
      try simp (maxDischargeDepth := 8) [↓sC, sB, sM]
      exact hf.trans0 hf2
  | succ m =>
    have hi8 : (i : Int) < 8 := by omega
    have hi8' : i < 8 := by omega
    have hle : 256 ^ i ≤ 256 ^ 7 := Nat.pow_le_pow_right (by omega) (by omega)
    have hlt : n * 2 ^ 8 < 2 * H63 := by
      have : (256 : Nat) ^ 7 * 2 ^ 8 = 2 * H63 := by decide
      have := Nat.mul_lt_mul_of_pos_right (Nat.lt_of_lt_of_le hn hle) (show 0 < 2 ^ 8 by omega)
      omega
    have hsh : ∀ w, pBin P .shl 127 true (u64 n) (Value.int .u64 8) w = some (u64 (n * 256), w) := fun w => by
      have := pShlU (P := P) (t := 127) (w := w) (lit := true) (a := n) (k := .u64) (y := 8) (by omega) (by omega) hlt
      simpa using this
    obtain ⟨q, hq⟩ : ∃ q, q = n * 256 := ⟨_, rfl⟩
    rw [← hq] at hsh
    try simp (maxDischargeDepth := 8) [↓sC, sB, sM, e0, e3, e6, hi8, hi8', hsh]
    refine (pkone_spec hr).call ?_ ?_
    · rintro _ w2 ⟨h1, rfl, hr2, hf2⟩
      by_cases hk : k + i < B.length
      · rw [drop_gb hk] at hp1 hp2 hp3 h1 hr2 ⊢
        generalize gb B (k + i) = x at *
        simp only [pkoneM] at hr2 ⊢
        have hx := x.toNat_lt
        have hcv : ∀ w, pConv P 5 127 (bv x) w = some (u64 x.toNat, w) := fun w => by
          rw [pConv_int tyOk5 intK127, wrapu (by unfold H63; omega)]
        have hor : ∀ w, pBin P .or 127 false (u64 q) (u64 x.toNat) w = some (u64 (q + x.toNat), w) := fun w => by
          rw [pOrU (by omega) (by unfold H63; omega)]
          have := Nat.two_pow_add_eq_or_of_lt (i := 8) (b := x.toNat) hx n
          have e : q = 2 ^ 8 * n := by omega
          rw [e, this]
        obtain ⟨q2, hq2⟩ : ∃ q2, q2 = q + x.toNat := ⟨_, rfl⟩
        rw [← hq2] at hor
        have hwr : IntKind.i64.wrap ((i : Int) + 1) = ((i + 1 : Nat) : Int) := wrap64 (by omega) (by omega)
        obtain ⟨i1, hi1⟩ : ∃ i1 : Int, i1 = ((i + 1 : Nat) : Int) := ⟨_, rfl⟩
        rw [← hi1] at hwr
        try simp (maxDischargeDepth := 8) [↓sC, sB, sM, e0, e3, e6, hcv, hor, hwr]
        refine ⟨m, by omega, i + 1, q2, by omega, ?_, hr2, hf.trans hf2 (by simp), ?_, ?_, ?_, by simp [put_get, e0], by simp [put_get], by simp [put_get, hi1]⟩
        · rw [Nat.pow_succ, hq2, hq]
          generalize 256 ^ i = z at hn
          clear h256 hle hlt hsh hor hcv hp1 hp2 hp3
          omega
        · rw [hp1, hq2, hq]; rfl
        · rw [hp2, hq2, hq]; simp only [placeM, Nat.add_assoc]; omega
        · rw [hp3, hq2, hq]; rfl
      · have hnil : B.drop (k + i) = [] := List.drop_eq_nil_of_le (by omega)
        rw [hnil] at h1
        simp [pkoneM] at h1
    · rintro ch w2 ⟨h1, rfl, hf2⟩
      have hk : ¬ k + i < B.length := by
        intro hk
        rw [drop_gb hk] at h1
        exact h1 rfl
      have hnil : B.drop (k + i) = [] := List.drop_eq_nil_of_le (by omega)
      rw [hnil] at hp1 hp2 hp3 ⊢
      simp only [placeM] at hp1 hp2 hp3
      have : floatM (B.drop k) = (0, i, 2) := by
        unfold floatM
        have : placeM 8 0 (B.drop k) = (0, i, 2) := by
          generalize placeM 8 0 (B.drop k) = r at *
          obtain ⟨r1, r2, r3⟩ := r
          simp only at hp1 hp2 hp3
          rw [hp1, hp2, hp3]; simp
        rw [this]; simp
      rw [this]
      try simp (maxDischargeDepth := 8) [↓sC, sB, sM, pkoneM]
      exact hf.trans hf2 (by simp)
def flagM : List UInt8 → Bool × Nat × Nat
  | [] => (false, 0, 2)
  | x :: _ => if 1 < x.toNat then (false, 1, 4) else (decide (x = 1), 1, 0)
theorem rFlag_spec {w : World} {b : Nat} {v : Value} {B : List UInt8} {k : Nat} (h : IsRd w b v B k) : Rd 99 #[pt b 0] w b v B k Value.bool (flagM (B.drop k)) := by
  refine F99ok ?_
  unfold F99
  refine (pkone_spec h).call ?_ ?_
  · rintro _ w1 ⟨h1, rfl, hr, hf⟩
    by_cases hk : k < B.length
    · rw [drop_gb hk] at h1 hr ⊢
      generalize gb B k = x at *
      simp only [pkoneM] at hr ⊢
      by_cases hx : 1 < x.toNat
      · have c1 : (1 < x.toNat) = True := eq_true hx
        have c2 : ((1 : Int) < x.toNat) = True := eq_true (by omega)
        try simp (maxDischargeDepth := 8) [↓sC, sB, sM, c1, c2]
        refine (fail_spec hr).call (fun _ _ hF => hF.elim) ?_
        rintro ch w3 ⟨rfl, rfl⟩
        simp only [flagM, if_pos hx]
        try simp (maxDischargeDepth := 8) [↓sC, sB, sM]
        exact hf
      · have c1 : (1 < x.toNat) = False := eq_false hx
        have c2 : ((1 : Int) < x.toNat) = False := eq_false (by omega)
        simp only [flagM, if_neg hx]
        try simp (maxDischargeDepth := 8) [↓sC, sB, sM, c1, c2]
        exact ⟨hr, hf⟩
    · rw [List.drop_eq_nil_of_le (by omega)] at h1
      simp [pkoneM] at h1
  · rintro ch w2 ⟨h1, rfl, hf2⟩
    have hk : ¬ k < B.length := by
      intro hk
      rw [drop_gb hk] at h1
      exact h1 rfl
    rw [List.drop_eq_nil_of_le (by omega)]
    try simp (maxDischargeDepth := 8) [↓sC, sB, sM, pkoneM, flagM]
    exact hf2
end Go.Proofs.YtieejbkbdfccdaaGreat

set_option linter.unusedVariables false
set_option linter.unusedSimpArgs false
namespace Go.Proofs.YtieejbkbdfccdaaGreat
open Go
theorem pkrd_sub {w : World} {ab ao N ac : Nat} {B : List UInt8} (h : RdV w (sl ab ao N ac) N (bs B)) (hN : B.length = N) {lo hi : Nat} (h1 : lo ≤ hi) (h2 : hi ≤ N) :
    RdV w (.slice (some ⟨ab, if ac = lo then ao else ao + lo * 1, none⟩) (hi - lo) (ac - lo)) ((B.drop lo).take (hi - lo)).length (bs ((B.drop lo).take (hi - lo))) := by
  have hl : ((B.drop lo).take (hi - lo)).length = hi - lo := by simp; omega
  rw [hl]
  rcases h with ⟨a, c, hv, h0, _⟩ | ⟨b, o, c, hv, hc1, hc2, hlt, hin, hcs⟩
  · have : hi - lo = 0 := by omega
    rw [this]
    exact .inl ⟨_, _, rfl, rfl, by simp [bs]⟩
  · simp only [Value.slice.injEq, Option.some.injEq, Addr.mk.injEq] at hv
    obtain ⟨⟨rfl, rfl, _⟩, _, rfl⟩ := hv
    by_cases h0 : hi - lo = 0
    · rw [h0]
      exact .inl ⟨_, _, rfl, rfl, by simp [bs]⟩
    · have hne : ¬ ac = lo := by omega
      rw [if_neg hne, Nat.mul_one]
      rw [bs_length] at hin hcs
      refine .inr ⟨ab, ao + lo, ac - lo, rfl, by omega, by omega, hlt, by rw [bs_length, hl]; omega, ?_⟩
      rw [bs_length, hl, ← bs_take, ← bs_drop, ← hcs, List.drop_take, List.take_take, List.drop_drop]
      congr 1
      omega
def strM (most : Int) (l : List UInt8) : List UInt8 × Nat × Nat :=
  let q := num l
  if q.2.2 ≠ 0 then ([], q.2.1, q.2.2) else if (max most 0).toNat < q.1 then ([], q.2.1, 3) else if l.length - q.2.1 < q.1 then ([], q.2.1, 2) else ((l.drop q.2.1).take q.1, q.2.1 + q.1, 0)
theorem num_le (l : List UInt8) : (num l).2.1 ≤ l.length := by
  have key : ∀ (l : List UInt8) (n i : Nat), i ≤ 9 → (numGo n i l).2.1 ≤ i + l.length := by
    intro l
    induction l with
    | nil => intro n i hi; simp [numGo]
    | cons x r ih =>
      intro n i hi
      rw [numGo, List.length_cons]
      by_cases hbad : i = 9 ∧ 1 < x.toNat
      · rw [if_pos hbad]; simp only; omega
      · rw [if_neg hbad]
        by_cases hx : x.toNat < 128
        · rw [if_pos hx]
          split <;> simp only <;> omega
        · rw [if_neg hx]
          have := x.toNat_lt
          have hi8 : i < 9 := by
            rcases Nat.lt_or_ge i 9 with h | h
            · exact h
            · exact absurd ⟨by omega, by omega⟩ hbad
          have := ih (n + x.toNat % 128 * 128 ^ i) (i + 1) (by omega)
          omega
  have := key l 0 0 (by omega)
  unfold num
  omega
theorem num_pos {l : List UInt8} (h : (num l).2.2 = 0) : 0 < (num l).2.1 := by
  cases l with
  | nil => simp [num, numGo] at h
  | cons x r =>
    have key : ∀ (l : List UInt8) (n i : Nat), (numGo n i l).2.2 = 0 → i ≤ (numGo n i l).2.1 := by
      intro l
      induction l with
      | nil => intro n i _; simp [numGo]
      | cons x r ih =>
        intro n i h
        rw [numGo] at h ⊢
        by_cases hbad : i = 9 ∧ 1 < x.toNat
        · rw [if_pos hbad]; simp only; omega
        · rw [if_neg hbad] at h ⊢
          by_cases hx : x.toNat < 128
          · rw [if_pos hx]
            split <;> simp only <;> omega
          · rw [if_neg hx] at h ⊢
            have := ih _ _ h
            omega
    unfold num at h ⊢
    rw [numGo, if_neg (by omega)] at h ⊢
    by_cases hx : x.toNat < 128
    · rw [if_pos hx]
      split <;> simp only <;> omega
    · rw [if_neg hx] at h ⊢
      have := key _ _ _ h
      omega
theorem rS_spec {w : World} {b : Nat} {v : Value} {B : List UInt8} {k : Nat} {most : Int} (h : IsRd w b v B k) (hm : most < 9223372036854775808) :
    Rd 63 #[pt b 0, i64 most] w b v B k strB (strM most (B.drop k)) := by
  refine F63ok ?_
  unfold F63
  refine (rU_spec h).call ?_ ?_
  · rintro _ w1 ⟨h1, rfl, hr, hf⟩
    have hn := num_lt h1
    have hz := num_le (B.drop k)
    have hpos := num_pos h1
    unfold strM
    generalize num (B.drop k) = r at *
    obtain ⟨n, z, c⟩ := r
    simp only at h1 hr hn hz hpos ⊢
    subst h1
    simp only [ne_eq, not_true_eq_false, if_false]
    have hlen := h.rd.len
    have hkz := hr.le
    have hB : (B.drop k).length = B.length - k := by simp
    rw [hB] at hz ⊢
    obtain ⟨q, hq⟩ : ∃ q : Nat, max most 0 = (q : Int) := ⟨(max most 0).toNat, by omega⟩
    have hqt : (max most 0).toNat = q := by omega
    have hwq : IntKind.u64.wrap (q : Int) = (q : Int) := wrapu (by unfold H63; omega)
    rw [hqt]
    by_cases hlong : q < n
    · rw [if_pos hlong]
      try simp (maxDischargeDepth := 8) [↓sC, sB, sM, hq, hwq, hlong]
      refine (fail_spec hr).call (fun _ _ hF => hF.elim) ?_
      rintro ch w2 ⟨rfl, rfl⟩
      try simp (maxDischargeDepth := 8) [↓sC, sB, sM]
      exact hf
    · rw [if_neg hlong]
      try simp (maxDischargeDepth := 8) [↓sC, sB, sM, hq, hwq, hlong]
      refine (pkleft_spec hr).call ?_
      rintro _ w2 ⟨rfl, hf2⟩
      have hr2 := hr.fr0 hf2
      obtain ⟨d, hd⟩ : ∃ d, d = B.length - (k + z) := ⟨_, rfl⟩
      have hdz : B.length - k - z = d := by omega
      have hwd : IntKind.u64.wrap (d : Int) = (d : Int) := wrapu (by unfold H63; omega)
      rw [hdz, ← hd]
      by_cases hshort : d < n
      · rw [if_pos hshort]
        try simp (maxDischargeDepth := 8) [↓sC, sB, sM, hwd, hshort]
        refine (fail_spec hr2).call (fun _ _ hF => hF.elim) ?_
        rintro ch w3 ⟨rfl, rfl⟩
        try simp (maxDischargeDepth := 8) [↓sC, sB, sM]
        exact hf.trans0 hf2
      · rw [if_neg hshort]
        have hwn : IntKind.i64.wrap (n : Int) = (n : Int) := wrap64 (by omega) (by omega)
        obtain ⟨s, hs⟩ : ∃ s : Int, s = ((k + z : Nat) : Int) := ⟨_, rfl⟩
        obtain ⟨t, ht⟩ : ∃ t : Int, t = ((k + z + n : Nat) : Int) := ⟨_, rfl⟩
        have hws : IntKind.i64.wrap (s + n) = t := wrap64 (by omega) (by omega) |>.trans (by omega)
        have hwt : IntKind.i64.wrap (t - n) = s := wrap64 (by omega) (by omega) |>.trans (by omega)
        have hc2 := hr2.cell
        rw [← hs] at hc2
        obtain ⟨W, hW⟩ : ∃ W, W = wr w2 b [v, i64 t] := ⟨_, rfl⟩
        have hrW : IsRd W b v B (k + z + n) := by rw [hW, ht]; exact hr2.at_ (by omega)
        have hcW := hrW.cell
        rw [← ht] at hcW
        rcases id hr2.rd with ⟨_, _, _, h0, _⟩ | ⟨ab, ao, ac, hv, hac, _⟩
        · omega
        · have hdW : RdV (drew W) (sl ab ao B.length ac) B.length (bs B) := by rw [← hv]; exact (hrW.rd).fr0 (Fr.refl [] W).drew
          have hsub := pkrd_sub hdW rfl (lo := k + z) (hi := k + z + n) (by omega) (by omega)
          have e1 : k + z + n - (k + z) = n := by omega
          rw [e1] at hsub
          obtain ⟨S, hS⟩ : ∃ S : Value, S = .slice (some ⟨ab, if ac = k + z then ao else ao + (k + z) * 1, none⟩) n (ac - (k + z)) := ⟨_, rfl⟩
          rw [← hS] at hsub
          have hsl : ∀ w, pSlice P 72 v (some (i64 s)) (some (i64 t)) none w = some (S, w) := fun w => by
            rw [hv, slB72 (by omega) (by omega) (by omega) hac, hS]
            have e2 : s.toNat = k + z := by omega
            have e3 : t.toNat = k + z + n := by omega
            rw [e2, e3, e1]
          have hcs : pConv P 72 9 S (drew W) = some (strB ((B.drop (k + z)).take n), drew W) := conv_str sliceE72 intK5 und9 hsub
          have hv1 : v.oneCell' = true := by rw [hv]; rfl
          try simp (maxDischargeDepth := 8) [↓sC, sB, sM, hwd, hshort, hwn, hws, hwt, hc2, hr2.fz, ← hW, hcW, hsl, hcs]
          refine ⟨?_, ?_⟩
          · have := hrW.fr0 (Fr.refl [] W).drew
            rwa [Nat.add_assoc] at this
          · rw [hW]; exact ((hf.trans0 hf2).wr (.inl (by simp)) _).drew
  · rintro ch w1 ⟨h1, rfl, hf⟩
    have : strM most (B.drop k) = ([], (num (B.drop k)).2.1, (num (B.drop k)).2.2) := by
      unfold strM; simp [h1]
    rw [this]
    try simp (maxDischargeDepth := 8) [↓sC, sB, sM]
    exact ⟨h1, hf⟩
theorem end_spec {w : World} {b : Nat} {v : Value} {B : List UInt8} {k : Nat} (h : IsRd w b v B k) :
    Thr P 65 #[pt b 0] w (fun r w' => k = B.length ∧ Fr [] w w') (fun ch w' => k < B.length ∧ ch = faultC 3 k ∧ Fr [] w w') := by
  refine F65ok ?_
  unfold F65
  have hle := h.le
  refine (pkleft_spec h).call ?_
  rintro _ w1 ⟨rfl, hf⟩
  obtain ⟨d, hd⟩ : ∃ d, d = B.length - k := ⟨_, rfl⟩
  rw [← hd]
  by_cases h0 : 0 < d
  · try simp (maxDischargeDepth := 8) [↓sC, sB, sM, h0]
    refine (fail_spec (h.fr0 hf)).call (fun _ _ hF => hF.elim) ?_
    rintro ch w2 ⟨rfl, rfl⟩
    try simp (maxDischargeDepth := 8) [↓sC, sB, sM]
    exact ⟨by omega, hf⟩
  · try simp (maxDischargeDepth := 8) [↓sC, sB, sM, h0]
    exact ⟨by omega, hf⟩
def zP (kind : UInt8) : PartP := ⟨kind, 0, 0, 0, [], false⟩
def partM (kind : UInt8) (most : Int) (l : List UInt8) : PartP × Nat × Nat :=
  if kind = 117 then let q := num l; ({ zP kind with u := q.1 }, q.2.1, q.2.2)
  else if kind = 105 then let q := num l; ({ zP kind with i := zag q.1 }, q.2.1, q.2.2)
  else if kind = 102 then let q := floatM l; ({ zP kind with f := q.1 }, q.2.1, q.2.2)
  else if kind = 115 then let q := strM most l; ({ zP kind with s := q.1 }, q.2.1, q.2.2)
  else if kind = 98 then let q := flagM l; ({ zP kind with b := q.1 }, q.2.1, q.2.2)
  else (zP kind, 0, 5)
theorem floatM_lt {l : List UInt8} (h : (floatM l).2.2 = 0) : (floatM l).1 < 2 * H63 := by
  have hp := placeM_lt 8 0 l 0 (by omega)
  have h256 : (256 : Nat) ^ (0 + 8) = 2 * H63 := by decide
  unfold floatM at h ⊢
  generalize placeM 8 0 l = r at *
  obtain ⟨r1, r2, r3⟩ := r
  simp only at h hp ⊢
  by_cases h3 : r3 = 0
  · subst h3
    have hp := hp rfl
    rw [h256] at hp
    simp only [ne_eq, not_true_eq_false, if_false] at h ⊢
    split
    · exact backB_lt hp
    · show 0 < 2 * H63; decide
  · simp only [ne_eq, h3, not_false_eq_true, if_true] at h ⊢
theorem partM_ok {kind : UInt8} {most : Int} {l : List UInt8} (h : (partM kind most l).2.2 = 0) : okP (partM kind most l).1 := by
  unfold partM at h ⊢
  have hH : 0 < 2 * H63 := by decide
  have z : okP (zP kind) := ⟨hH, ⟨by show (-9223372036854775808 : Int) ≤ 0; omega, by show (0 : Int) < 9223372036854775808; omega⟩, hH⟩
  split
  · rename_i hk
    rw [if_pos hk] at h
    exact ⟨num_lt h, z.2⟩
  · rename_i hk
    rw [if_neg hk] at h
    split
    · rename_i hk
      rw [if_pos hk] at h
      exact ⟨z.1, zag_range (num_lt h), z.2.2⟩
    · rename_i hk
      rw [if_neg hk] at h
      split
      · rename_i hk
        rw [if_pos hk] at h
        exact ⟨z.1, z.2.1, floatM_lt h⟩
      · split
        · exact z
        · split
          · exact z
          · exact z
theorem part_spec {w : World} {b : Nat} {v : Value} {B : List UInt8} {k : Nat} {most : Int} {kind : UInt8} (h : IsRd w b v B k) (hm : most < 9223372036854775808) :
    Rd 81 #[pt b 0, bv kind, i64 most] w b v B k (fun p => .agg (partC p).toArray) (partM kind most (B.drop k)) := by
  refine F81ok ?_
  unfold F81
  obtain ⟨z, hz⟩ : ∃ z : List Value, z = partC (zP 0) := ⟨_, rfl⟩
  have hz' : [Value.int IntKind.u8 0, Value.int IntKind.u64 0, Value.int IntKind.i64 0, Value.float FloatKind.f64 0, Value.string ByteArray.empty, Value.bool false] = z := by rw [hz]; rfl
  have hlb := lt_of_fz h.fz
  have hzs : partC (zP kind) = [bv kind, u64 0, i64 0, fl 0, strB [], .bool false] := rfl
  have hs6 : ∀ p l : List Value, l.length = 6 → p.length = 6 → splice l 0 p = p := fun p l hl hp => splice_full (by rw [hl, hp])
  have hbld : ∀ w, pBuild P 136 [(0, bv kind)] w = some (.agg (partC (zP kind)).toArray, w) := fun w => by
    rw [bf136 (by simp)]; rfl
  have hzl : z.length = 6 := by rw [hz]; rfl
  have hpl : ∀ p, (partC p).length = 6 := fun _ => rfl
  obtain ⟨W, hW⟩ : ∃ W, W = wr (nw (nw w z 136) z 136) (sz w + 1) (partC (zP kind)) := ⟨_, rfl⟩
  have hfW : Fr [] w W := by rw [hW]; exact (((Fr.refl [] w).nw _ _).nw _ _).wr (.inr (by omega)) _
  have hsW : sz W = sz w + 1 + 1 := by rw [hW]; simp [sM]
  have hmW : mm W (sz w + 1) = partC (zP kind) := by rw [hW]; simp [sM]
  have hzW : fz W (sz w + 1) = false := by rw [hW]; simp [sM]
  have hmW0 : mm W (sz w) = z := by rw [hW]; simp [sM]
  have hzW0 : fz W (sz w) = false := by rw [hW]; simp [sM]
  have hrW := h.fr0 hfW
  try simp only [al136, hz']
  try simp (maxDischargeDepth := 8) [↓sC, sB, sM, hbld, hs6, hzl, hpl, partC_oneT, ← hW]
  have keep : ∀ {w2 : World}, Fr [b] W w2 → mm w2 (sz w + 1) = partC (zP kind) ∧ fz w2 (sz w + 1) = false ∧ mm w2 (sz w) = z ∧ fz w2 (sz w) = false := fun {w2} hf => by
    have n1 : sz w + 1 ∉ [b] := by simp; omega
    have n0 : sz w ∉ [b] := by simp; omega
    exact ⟨by rw [hf.mm (by omega) n1, hmW], by rw [hf.fz (by omega) n1, hzW], by rw [hf.mm (by omega) n0, hmW0], by rw [hf.fz (by omega) n0, hzW0]⟩
  have fin : ∀ {w2 : World} (L : List Value) (k' : Nat), Fr [b] W w2 → IsRd w2 b v B k' → IsRd (wr (wr w2 (sz w + 1) L) (sz w) L) b v B k' ∧ Fr [b] w (wr (wr w2 (sz w + 1) L) (sz w) L) := fun {w2} L k' hf hr => by
    refine ⟨?_, ((hfW.mono (by simp)).trans hf (by simp)).wr (.inr (by omega)) _ |>.wr (.inr (by omega)) _⟩
    have f2 : Fr [sz w + 1, sz w] w2 (wr (wr w2 (sz w + 1) L) (sz w) L) := ((Fr.refl _ _).wr (.inl (by simp)) _).wr (.inl (by simp)) _
    exact hr.fr f2 (by simp; omega) (fun h0 c hc _ => by have := rdb_lt h.rd h0 hc; simp; omega)
  have n01 : ¬ sz w = sz w + 1 := by omega
  try simp only [ki117, ki105, ki102, ki115, ki98]
  by_cases k117 : kind = 117
  · have hpm : partM kind most (B.drop k) = ({ zP kind with u := (num (B.drop k)).1 }, (num (B.drop k)).2.1, (num (B.drop k)).2.2) := by unfold partM; rw [if_pos k117]
    rw [hpm]
    obtain ⟨L, hL⟩ : ∃ L, L = partC { zP kind with u := (num (B.drop k)).1 } := ⟨_, rfl⟩
    have hset : (partC (zP kind)).set 1 (gt (partC { zP kind with u := (num (B.drop k)).1 }) 1) = L := by rw [hL]; rfl
    have hl6 : L.length = 6 := by rw [hL]; rfl
    have ht6 : List.take 6 L = L := List.take_of_length_le (by omega)
    have h1L : (∀ v, v ∈ L → v.oneCell' = true) = True := by rw [hL]; exact partC_oneT _
    simp only [partC, gt_zero, gt_succ] at hset
    rw [← hL]
    try simp (maxDischargeDepth := 8) [↓sC, sB, sM, k117]
    refine (rU_spec hrW).call ?_ ?_
    · rintro _ w2 ⟨h1, rfl, hr, hf⟩
      obtain ⟨q1, q2, q3, q4⟩ := keep hf
      simp only [partC] at q1
      try simp (maxDischargeDepth := 8) [↓sC, sB, sM, q1, q2, q3, q4, hpl, hzl, n01, hset, hl6, ht6, h1L, hs6]
      exact ⟨h1, fin L _ hf hr⟩
    · rintro ch w2 ⟨h1, rfl, hf⟩
      try simp (maxDischargeDepth := 8) [↓sC, sB, sM]
      exact ⟨h1, (hfW.mono (by simp)).trans hf (by simp)⟩
  by_cases k105 : kind = 105
  · have hpm : partM kind most (B.drop k) = ({ zP kind with i := zag (num (B.drop k)).1 }, (num (B.drop k)).2.1, (num (B.drop k)).2.2) := by unfold partM; rw [if_neg k117, if_pos k105]
    rw [hpm]
    obtain ⟨L, hL⟩ : ∃ L, L = partC { zP kind with i := zag (num (B.drop k)).1 } := ⟨_, rfl⟩
    have hset : (partC (zP kind)).set 2 (gt (partC { zP kind with i := zag (num (B.drop k)).1 }) 2) = L := by rw [hL]; rfl
    have hl6 : L.length = 6 := by rw [hL]; rfl
    have ht6 : List.take 6 L = L := List.take_of_length_le (by omega)
    have h1L : (∀ v, v ∈ L → v.oneCell' = true) = True := by rw [hL]; exact partC_oneT _
    simp only [partC, gt_zero, gt_succ] at hset
    rw [← hL]
    try simp (maxDischargeDepth := 8) [↓sC, sB, sM, k105, k117]
    refine (rI_spec hrW).call ?_ ?_
    · rintro _ w2 ⟨h1, rfl, hr, hf⟩
      obtain ⟨q1, q2, q3, q4⟩ := keep hf
      simp only [partC] at q1
      try simp (maxDischargeDepth := 8) [↓sC, sB, sM, q1, q2, q3, q4, hpl, hzl, n01, hset, hl6, ht6, h1L, hs6]
      exact ⟨h1, fin L _ hf hr⟩
    · rintro ch w2 ⟨h1, rfl, hf⟩
      try simp (maxDischargeDepth := 8) [↓sC, sB, sM]
      exact ⟨h1, (hfW.mono (by simp)).trans hf (by simp)⟩
  by_cases k102 : kind = 102
  · have hpm : partM kind most (B.drop k) = ({ zP kind with f := (floatM (B.drop k)).1 }, (floatM (B.drop k)).2.1, (floatM (B.drop k)).2.2) := by unfold partM; rw [if_neg k117, if_neg k105, if_pos k102]
    rw [hpm]
    obtain ⟨L, hL⟩ : ∃ L, L = partC { zP kind with f := (floatM (B.drop k)).1 } := ⟨_, rfl⟩
    have hset : (partC (zP kind)).set 3 (gt (partC { zP kind with f := (floatM (B.drop k)).1 }) 3) = L := by rw [hL]; rfl
    have hl6 : L.length = 6 := by rw [hL]; rfl
    have ht6 : List.take 6 L = L := List.take_of_length_le (by omega)
    have h1L : (∀ v, v ∈ L → v.oneCell' = true) = True := by rw [hL]; exact partC_oneT _
    simp only [partC, gt_zero, gt_succ] at hset
    rw [← hL]
    try simp (maxDischargeDepth := 8) [↓sC, sB, sM, k102, k117, k105]
    refine (rF_spec hrW).call ?_ ?_
    · rintro _ w2 ⟨h1, rfl, hr, hf⟩
      obtain ⟨q1, q2, q3, q4⟩ := keep hf
      simp only [partC] at q1
      try simp (maxDischargeDepth := 8) [↓sC, sB, sM, q1, q2, q3, q4, hpl, hzl, n01, hset, hl6, ht6, h1L, hs6]
      exact ⟨h1, fin L _ hf hr⟩
    · rintro ch w2 ⟨h1, rfl, hf⟩
      try simp (maxDischargeDepth := 8) [↓sC, sB, sM]
      exact ⟨h1, (hfW.mono (by simp)).trans hf (by simp)⟩
  by_cases k115 : kind = 115
  · have hpm : partM kind most (B.drop k) = ({ zP kind with s := (strM most (B.drop k)).1 }, (strM most (B.drop k)).2.1, (strM most (B.drop k)).2.2) := by unfold partM; rw [if_neg k117, if_neg k105, if_neg k102, if_pos k115]
    rw [hpm]
    obtain ⟨L, hL⟩ : ∃ L, L = partC { zP kind with s := (strM most (B.drop k)).1 } := ⟨_, rfl⟩
    have hset : (partC (zP kind)).set 4 (gt (partC { zP kind with s := (strM most (B.drop k)).1 }) 4) = L := by rw [hL]; rfl
    have hl6 : L.length = 6 := by rw [hL]; rfl
    have ht6 : List.take 6 L = L := List.take_of_length_le (by omega)
    have h1L : (∀ v, v ∈ L → v.oneCell' = true) = True := by rw [hL]; exact partC_oneT _
    simp only [partC, gt_zero, gt_succ] at hset
    rw [← hL]
    try simp (maxDischargeDepth := 8) [↓sC, sB, sM, k115, k117, k105, k102]
    refine (rS_spec hrW hm).call ?_ ?_
    · rintro _ w2 ⟨h1, rfl, hr, hf⟩
      obtain ⟨q1, q2, q3, q4⟩ := keep hf
      simp only [partC] at q1
      try simp (maxDischargeDepth := 8) [↓sC, sB, sM, q1, q2, q3, q4, hpl, hzl, n01, hset, hl6, ht6, h1L, hs6]
      exact ⟨h1, fin L _ hf hr⟩
    · rintro ch w2 ⟨h1, rfl, hf⟩
      try simp (maxDischargeDepth := 8) [↓sC, sB, sM]
      exact ⟨h1, (hfW.mono (by simp)).trans hf (by simp)⟩
  by_cases k98 : kind = 98
  · have hpm : partM kind most (B.drop k) = ({ zP kind with b := (flagM (B.drop k)).1 }, (flagM (B.drop k)).2.1, (flagM (B.drop k)).2.2) := by unfold partM; rw [if_neg k117, if_neg k105, if_neg k102, if_neg k115, if_pos k98]
    rw [hpm]
    obtain ⟨L, hL⟩ : ∃ L, L = partC { zP kind with b := (flagM (B.drop k)).1 } := ⟨_, rfl⟩
    have hset : (partC (zP kind)).set 5 (gt (partC { zP kind with b := (flagM (B.drop k)).1 }) 5) = L := by rw [hL]; rfl
    have hl6 : L.length = 6 := by rw [hL]; rfl
    have ht6 : List.take 6 L = L := List.take_of_length_le (by omega)
    have h1L : (∀ v, v ∈ L → v.oneCell' = true) = True := by rw [hL]; exact partC_oneT _
    simp only [partC, gt_zero, gt_succ] at hset
    rw [← hL]
    try simp (maxDischargeDepth := 8) [↓sC, sB, sM, k98, k117, k105, k102, k115]
    refine (rFlag_spec hrW).call ?_ ?_
    · rintro _ w2 ⟨h1, rfl, hr, hf⟩
      obtain ⟨q1, q2, q3, q4⟩ := keep hf
      simp only [partC] at q1
      try simp (maxDischargeDepth := 8) [↓sC, sB, sM, q1, q2, q3, q4, hpl, hzl, n01, hset, hl6, ht6, h1L, hs6]
      exact ⟨h1, fin L _ hf hr⟩
    · rintro ch w2 ⟨h1, rfl, hf⟩
      try simp (maxDischargeDepth := 8) [↓sC, sB, sM]
      exact ⟨h1, (hfW.mono (by simp)).trans hf (by simp)⟩
  · have hpm : partM kind most (B.drop k) = (zP kind, 0, 5) := by unfold partM; rw [if_neg k117, if_neg k105, if_neg k102, if_neg k115, if_neg k98]
    rw [hpm]
    try simp (maxDischargeDepth := 8) [↓sC, sB, sM, k117, k105, k102, k115, k98]
    refine (fail_spec hrW).call (fun _ _ hF => hF.elim) ?_
    rintro ch w2 ⟨rfl, rfl⟩
    try simp (maxDischargeDepth := 8) [↓sC, sB, sM]
    exact hfW.mono (by simp)
end Go.Proofs.YtieejbkbdfccdaaGreat

set_option linter.unusedVariables false
set_option linter.unusedSimpArgs false
namespace Go.Proofs.YtieejbkbdfccdaaGreat
open Go
theorem new62_spec {w : World} {v : Value} {B : List UInt8} (h : RdV w v B.length (bs B)) : Ret P 62 #[v] w fun r w' => r = pt (sz w) 0 ∧ IsRd w' (sz w) v B 0 ∧ Fr [] w w' ∧ sz w < sz w' := by
  refine F62ok ?_
  unfold F62
  obtain ⟨a, c, hv⟩ := sl_of h
  have hv1 : v.oneCell' = true := by rw [hv]; rfl
  have hb : ∀ w, pBuild P 159 [(0, v)] w = some (.agg #[v, i64 0], w) := fun w => by rw [bf159 (by simp [hv1])]; rfl
  try simp (maxDischargeDepth := 8) [↓sC, sB, sM, hb]
  exact ⟨by simp [sM], by simp [sM], rdb_fr h ((Fr.refl [] w).nw _ _) (by simp), by omega, fun h0 c hc => by have := rdb_lt h h0 hc; omega⟩
theorem und20i : P.underlying 20 = some (.interface (P.methodsAt 20)) := by kernel_rfl
theorem und44s : ∃ d, P.underlying 131 = some d := by
  have : (P.underlying 131).isSome = true := by kernel_rfl
  exact Option.isSome_iff_exists.1 this
theorem bld44 {w : World} : pBuild P 131 [] w = some (.agg #[i64 0, i64 0], w) := by rw [bf131 (by simp)]; rfl
theorem caught_nil {w : World} : Ret P 61 #[.nilIface] w fun r w' => r = .agg #[i64 0, i64 0] ∧ Fr [] w w' := by
  refine F61ok ?_
  unfold F61
  have he : ∀ w, pBin P .eql 20 true .nilIface .nilIface w = some (.bool true, w) := fun w => eqNilNil und20i
  try simp (maxDischargeDepth := 8) [↓sC, sB, sM, he, bld44]
theorem caught_fault {w : World} {c : Int} {k : Nat} : Ret P 61 #[faultV c k] w fun r w' => r = .agg #[i64 c, i64 k] ∧ Fr [] w w' := by
  refine F61ok ?_
  unfold F61
  obtain ⟨d, hd⟩ := und44s
  have he : ∀ w, pBin P .eql 20 true (faultV c k) .nilIface w = some (.bool false, w) := fun w => eqNilIface und20i
  have ha : ∀ w, pAssert P (faultV c k) 20 131 true w = some (.tuple #[.agg #[i64 c, i64 k], .bool true], w) := fun w => pAssert_ok hd concrete44
  have hn : ¬ sz w = sz w + 1 := by omega
  try simp (maxDischargeDepth := 8) [↓sC, sB, sM, he, ha, hn, splice]
theorem readc_nil {w : World} {o f : Nat} : CallsD P 80 #[pt o 0, pt f 0] .returning w fun x u' w' => x = .returned (.tuple #[]) ∧ u' = .returning ∧ Fr [] w w' := by
  refine F80ok ?_
  unfold F80
  rw [recV_returning, recM_returning]
  refine caught_nil.call ?_
  rintro _ w1 ⟨rfl, hf⟩
  try simp (maxDischargeDepth := 8) [↓sC, sB, sM, splice]
  exact ((hf.nw _ _).wr (.inr hf.size) _)
theorem readc_fault {w : World} {o f : Nat} {c : Int} {k : Nat} {ov : Value} {fv : List Value} (hc : c ≠ 0) (h1 : mm w o = [ov]) (h2 : fz w o = false) (h3 : mm w f = fv) (h4 : fz w f = false) (h5 : fv.length = 2) (hne : o ≠ f) :
    CallsD P 80 #[pt o 0, pt f 0] (.panicking (faultC c k)) w fun x u' w' => x = .returned (.tuple #[]) ∧ settle u' = .returning ∧ mm w' o = [.slice none 0 0] ∧ fz w' o = false ∧ mm w' f = [i64 c, i64 k] ∧ fz w' f = false ∧ Fr [o, f] w w' := by
  refine F80ok ?_
  unfold F80
  rw [recV_fresh]
  refine caught_fault.call ?_
  rintro _ w1 ⟨rfl, hf⟩
  have ho := lt_of_fz h2
  have hfl := lt_of_fz h4
  have e1 : mm w1 o = [ov] := by rw [hf.mm ho (by simp), h1]
  have e2 : fz w1 o = false := by rw [hf.fz ho (by simp), h2]
  have e3 : mm w1 f = fv := by rw [hf.mm hfl (by simp), h3]
  have e4 : fz w1 f = false := by rw [hf.fz hfl (by simp), h4]
  have s1 := hf.size
  have n1 : ¬ o = sz w1 := by omega
  have n2 : ¬ f = sz w1 := by omega
  have n3 : ¬ sz w1 = o := by omega
  have n4 : ¬ sz w1 = f := by omega
  have n5 : ¬ f = o := fun h => hne h.symm
  have hsp : splice fv 0 [i64 c, i64 k] = [i64 c, i64 k] := splice_full (by rw [h5]; rfl)
  try simp (maxDischargeDepth := 8) [↓sC, sB, sM, e1, e2, e3, e4, n1, n2, n3, n4, n5, hne, hc, h5, hsp, settle_fresh]
  exact (((((hf.mono (by simp)).nw _ _).wr (.inr s1) _).drew).wr (.inl (by simp)) _).wr (.inl (by simp)) _
/-- The parts that bytes are, of these kinds; the error's number, and how many bytes were read ahead. -/
def readGo (most : Int) : List UInt8 → List UInt8 → Nat → List PartP → List PartP × Nat × Nat
  | [], l, k, acc => if 0 < l.length then ([], 3, k) else (acc, 0, 0)
  | c :: cs, l, k, acc => if (partM c most l).2.2 ≠ 0 then ([], (partM c most l).2.2, k + (partM c most l).2.1) else readGo most cs (l.drop (partM c most l).2.1) (k + (partM c most l).2.1) (acc ++ [(partM c most l).1])
def readM (B K : List UInt8) (most : Int) : List PartP × Nat × Nat := readGo most K B 0 []
def pkRdI (w : World) (v : Value) (B K : List UInt8) (most : Int) (m : Nat) (e : Env) (w' : World) : Prop :=
  ∃ (j k : Nat) (acc : List PartP) (ov : Value), m = K.length - j ∧ j ≤ K.length ∧ acc.length = j ∧ readGo most (K.drop j) (B.drop k) k acc = readM B K most ∧
    IsRd w' (sz w + 2) v B k ∧ mm w' (sz w) = [ov] ∧ fz w' (sz w) = false ∧ mm w' (sz w + 1) = [i64 0, i64 0] ∧ fz w' (sz w + 1) = false ∧ w'.ownsRow (sz w) 136 6 ov j (flat partC acc) ∧
    (∀ c, ov.ownBlock = some c → c ≠ sz w ∧ c ≠ sz w + 1 ∧ c ≠ sz w + 2) ∧ (∀ p ∈ acc, okP p) ∧ Fr [] w w' ∧
    e 15 = i64 j ∧ e 14 = i64 K.length ∧ e 6 = pt (sz w) 0 ∧ e 7 = pt (sz w + 1) 0 ∧ e 8 = pt (sz w + 2) 0 ∧ e 1 = strB K ∧ e 2 = i64 most
def ReadR (w : World) (r : List PartP × Nat × Nat) (x : Value) (w' : World) : Prop :=
  ∃ ov, x = .tuple #[ov, .agg #[i64 r.2.1, i64 r.2.2]] ∧ w'.ownsRow (sz w) 136 6 ov r.1.length (flat partC r.1) ∧ (∀ p ∈ r.1, okP p) ∧ Fr [] w w'
theorem read_fails {w w2 : World} {e : Env} {ov : Value} {c k : Nat} {r : List PartP × Nat × Nat} (hr : r = ([], c, k)) (hc : c ≠ 0) (h1 : mm w2 (sz w) = [ov]) (h2 : fz w2 (sz w) = false) (h3 : mm w2 (sz w + 1) = [i64 0, i64 0])
    (h4 : fz w2 (sz w + 1) = false) (hf : Fr [] w w2) (e6 : e 6 = pt (sz w) 0) (e7 : e 7 = pt (sz w + 1) 0) :
    leaveE P 80 [pt (sz w) 0, pt (sz w + 1) 0] [.cell 6 129, .cell 7 131] (fun e w' => ∃ v, e = .returned v ∧ ReadR w r v w') (.panicking (faultC c k)) e w2 := by
  refine leaveE_def (CallsD.mono (readc_fault (by omega) h1 h2 h3 h4 rfl (by omega)) ?_)
  rintro x u' w3 ⟨rfl, hs, m1, m2, m3, m4, hf3⟩
  refine ⟨_, rfl, hs, ?_⟩
  subst hr
  try simp (maxDischargeDepth := 8) [↓sC, sB, sM, e6, e7, m1, m3]
  exact ⟨.slice none 0 0, rfl, World.ownsRow_nil _ _ _ _, by simp, hf.trans hf3 (by simp)⟩
theorem read_step {w : World} {v : Value} {B K : List UInt8} {most : Int} (hvl : 0 < B.length → ∀ c, v.ownBlock = some c → c < sz w) (hm : most < 9223372036854775808) (hK : K.length ≤ 1000000) {j : Nat} {e : Env} {w1 : World} (hj : j < K.length)
    (hI : pkRdI w v B K most (K.length - j) e w1) {KK : KT} (hN : ∀ e' w'', pkRdI w v B K most (K.length - (j + 1)) e' w'' → KK .normal e' w'')
    (hX : ∀ ch e' w', leaveE P 80 [pt (sz w) 0, pt (sz w + 1) 0] [.cell 6 129, .cell 7 131] (fun e w' => ∃ v, e = .returned v ∧ ReadR w (readM B K most) v w') (.panicking ch) e' w' → KK (.panic ch) e' w') : F59B0 e w1 KK := by
  obtain ⟨j', k, acc, ov, hjm, hj', hacc, hgo, hr, o1, o2, f1, f2, hown, hne, hok, hf, e15, e14, e6, e7, e8, e1, e2⟩ := hI
  have : j' = j := by omega
  subst this
  unfold F59B0
  have hji : (j' : Int) < K.length := by omega
  have hwj : IntKind.i64.wrap ((j' : Int) + 1) = ((j' + 1 : Nat) : Int) := wrap64 (by omega) (by omega)
  have hix : ∀ w, pIndex P 9 (strB K) (i64 j') w = some (bv (gb K j'), w) := fun w => ix_strB und9 hj
  have hov1 : ov.oneCell' = true := by obtain ⟨a, c, rfl⟩ := own_val hown; rfl
  try simp (maxDischargeDepth := 8) [↓sC, sB, sM, e15, e14, e6, e8, e1, e2, hji, hj, hix, o1]
  have hKd : K.drop j' = gb K j' :: K.drop (j' + 1) := drop_gb hj
  rw [hKd] at hgo
  generalize gb K j' = kind at *
  rw [readGo] at hgo
  have hsz := hf.size
  refine (part_spec (kind := kind) (most := most) (hr.fr0 (Fr.refl [] w1).drew) hm).call ?_ ?_
  · rintro _ w2 ⟨h1, rfl, hr2, hf2⟩
    rw [if_neg (by simpa using h1)] at hgo
    have hokp := partM_ok h1
    generalize partM kind most (B.drop k) = r at *
    obtain ⟨p, q, c⟩ := r
    simp only at h1 hr2 hgo hokp ⊢
    rw [List.drop_drop] at hgo
    have hb0 : ∀ x, x ≠ sz w + 2 → x ∉ [sz w + 2] := fun x hx => by simpa using hx
    have hz2 : sz w + 2 < sz w1 := lt_of_fz hr.fz
    have g1 : Fr [sz w + 2] w1 w2 := (Fr.refl [sz w + 2] w1).drew.trans hf2 (by simp)
    have p1 : mm w2 (sz w) = [ov] := by rw [g1.mm (by omega) (hb0 _ (by omega)), o1]
    have p2 : fz w2 (sz w) = false := by rw [g1.fz (by omega) (hb0 _ (by omega)), o2]
    have p3 : mm w2 (sz w + 1) = [i64 0, i64 0] := by rw [g1.mm (by omega) (hb0 _ (by omega)), f1]
    have p4 : fz w2 (sz w + 1) = false := by rw [g1.fz (by omega) (hb0 _ (by omega)), f2]
    have hs2 := g1.size
    have q1 : mm (nw w2 (partC p) 136) (sz w) = [ov] := by rw [mm_nw, if_neg (by omega), p1]
    have hbs : ∀ w, pBuildSlice P 129 1 [(0, .agg (partC p).toArray)] w = some (sl (sz w) 0 1 1, nw w (partC p) 136) := fun w => by
      rw [bsl129 (by omega) (by simp [partC])]; simp [partC, splice]
    have hown3 := own_fr hown (g1.nw (partC p) 136) (fun c hc => hb0 c (hne c hc).2.2)
    have hrd : RdV (nw w2 (partC p) 136) (sl (sz w2) 0 1 1) 1 (partC p) := rd_new w2 (partC p) 136 (n := 1) (by unfold maxLen; omega)
    obtain ⟨v', w3, hrun, hown', hg, hv'⟩ := append_own2 (P := P) (t := 129) (ty := 129) (sz w) sliceE129 hasZero136 cellsOf136 (by rw [zeroL136]; rfl) (by omega) hown3 (by rw [sz_nw]; omega) hrd rfl partC_one
      (by unfold maxLen; omega) (by rw [bytesOf136]; omega)
    have hf3 := Fr.of_grown hg
    have hno : ∀ x, x = sz w ∨ x = sz w + 1 ∨ x = sz w + 2 → x ∉ ov.ownBlock.toList := fun x hx h => by
      have := hne x (by simpa using h); omega
    have r1 : mm w3 (sz w) = [ov] := by rw [hf3.mm (by rw [sz_nw]; omega) (hno _ (by omega)), q1]
    have r2 : fz w3 (sz w) = false := by rw [hf3.fz (by rw [sz_nw]; omega) (hno _ (by omega)), fz_nw, if_neg (by omega), p2]
    have r3 : mm w3 (sz w + 1) = [i64 0, i64 0] := by rw [hf3.mm (by rw [sz_nw]; omega) (hno _ (by omega)), mm_nw, if_neg (by omega), p3]
    have r4 : fz w3 (sz w + 1) = false := by rw [hf3.fz (by rw [sz_nw]; omega) (hno _ (by omega)), fz_nw, if_neg (by omega), p4]
    have hv1 : v'.oneCell' = true := by obtain ⟨a, c, rfl⟩ := own_val hown'; rfl
    have hnv : ∀ c, v'.ownBlock = some c → c ≠ sz w ∧ c ≠ sz w + 1 ∧ c ≠ sz w + 2 := fun c hc => by
      rcases hv' with h | h
      · exact hne c (by rw [← h]; exact hc)
      · rw [h, sz_nw] at hc
        simp only [Option.some.injEq] at hc
        omega
    have hr3 : IsRd w3 (sz w + 2) v B (k + q) := by
      have h := hr2.fr0 ((Fr.refl [] w2).nw (partC p) 136)
      exact h.fr hf3 (hno _ (by omega)) (fun h0 c hc hlt hcm => by
        have hc2 : ov.ownBlock = some c := by simpa using hcm
        have := (hown.lt c hc2).1
        have := hvl h0 c hc
        omega)
    try simp (maxDischargeDepth := 8) [↓sC, sB, sM, p1, q1, hbs, hrun, r1, r2, hv1, hwj, -Int.natCast_add]
    refine hN _ _ ⟨j' + 1, k + q, acc ++ [p], v', rfl, by omega, by simp [hacc], hgo, hr3.fr ((Fr.refl [sz w] w3).wr (.inl (by simp)) _) (by simp) ?_, mm_wr_same r2 _, by rw [fz_wr, r2], by rw [mm_wr_ne (by omega), r3], by rw [fz_wr, r4], ?_, hnv, ?_, ?_,
      by simp [put_get], by simp [put_get, e14], by simp [put_get, e6], by simp [put_get, e7], by simp [put_get, e8], by simp [put_get, e1], by simp [put_get, e2]⟩
    · intro h0 c hc _
      have := hvl h0 c hc
      simp; omega
    · rw [flat_append, flat_one]
      exact own_fr hown' ((Fr.refl [sz w] w3).wr (.inl (by simp)) _) (fun c hc => by have := hnv c hc; simp; omega)
    · intro x hx
      rcases List.mem_append.1 hx with hx | hx
      · exact hok x hx
      · simp only [List.mem_cons, List.not_mem_nil, or_false] at hx; subst hx; exact hokp
    · exact ((hf.trans (g1.nw (partC p) 136) (fun c hc => .inr (by simp at hc; omega))).trans hf3 (fun c hc => .inr (hown.lt c (by simpa using hc)).1)).wr (.inr (Nat.le_refl _)) _
  · rintro ch w2 ⟨h1, rfl, hf2⟩
    rw [if_pos h1] at hgo
    intro e' hag
    have hz2 : sz w + 2 < sz w1 := lt_of_fz hr.fz
    have hb0 : ∀ x, x ≠ sz w + 2 → x ∉ [sz w + 2] := fun x hx => by simpa using hx
    have g1 : Fr [sz w + 2] w1 w2 := (Fr.refl [sz w + 2] w1).drew.trans hf2 (by simp)
    have a6 : e' 6 = pt (sz w) 0 := by rw [hag 6 (by decide)]; simp [put_get, e6]
    have a7 : e' 7 = pt (sz w + 1) 0 := by rw [hag 7 (by decide)]; simp [put_get, e7]
    refine hX _ _ _ (read_fails hgo.symm h1 (ov := ov) ?_ ?_ ?_ ?_ (hf.trans g1 (fun c hc => .inr (by simp at hc; omega))) a6 a7)
    · rw [g1.mm (by omega) (hb0 _ (by omega)), o1]
    · rw [g1.fz (by omega) (hb0 _ (by omega)), o2]
    · rw [g1.mm (by omega) (hb0 _ (by omega)), f1]
    · rw [g1.fz (by omega) (hb0 _ (by omega)), f2]
theorem packRead_spec {w : World} {v : Value} {B K : List UInt8} {most : Int} (hv : RdV w v B.length (bs B)) (hm : most < 9223372036854775808) (hK : K.length ≤ 1000000) :
    Ret P 59 #[v, strB K, i64 most] w fun x w' => ReadR w (readM B K most) x w' := by
  refine F59ok ?_
  unfold F59
  have hvl : 0 < B.length → ∀ c, v.ownBlock = some c → c < sz w := fun h0 c hc => rdb_lt hv h0 hc
  have hlen : ∀ w, pBuiltin P .len #[9] 3 [strB K] w = some (i64 K.length, w) := fun w => len_strB und9
  obtain ⟨W, hW⟩ : ∃ W, W = nw (nw w [.slice none 0 0] 129) [i64 0, i64 0] 131 := ⟨_, rfl⟩
  have hfW : Fr [] w W := by rw [hW]; exact ((Fr.refl [] w).nw _ _).nw _ _
  have hsW : sz W = sz w + 2 := by rw [hW]; simp [sM]
  have m1 : mm W (sz w) = [.slice none 0 0] := by rw [hW]; simp [sM]
  have m2 : fz W (sz w) = false := by rw [hW]; simp [sM]
  have m3 : mm W (sz w + 1) = [i64 0, i64 0] := by rw [hW]; simp [sM]
  have m4 : fz W (sz w + 1) = false := by rw [hW]; simp [sM]
  try simp (maxDischargeDepth := 8) [↓sC, sB, sM, ← hW]
  refine (new62_spec (hv.fr0 hfW)).call ?_
  rintro _ w1 ⟨rfl, hr, hf1, hs1⟩
  rw [hsW] at hr hs1 ⊢
  try simp (maxDischargeDepth := 8) [↓sC, sB, sM, hlen]
  refine loopE_of (pkRdI w v B K most) K.length ?_ ?_
  · refine ⟨0, 0, [], .slice none 0 0, by omega, by omega, rfl, rfl, hr, ?_, ?_, ?_, ?_, World.ownsRow_nil _ _ _ _, by simp [Value.ownBlock], by simp, hfW.trans0 hf1, by simp [put_get], by simp [put_get], by simp [put_get], by simp [put_get], by simp [put_get], by simp [put_get, argE_get], by simp [put_get, argE_get]⟩
    · rw [hf1.mm (by omega) (by simp), m1]
    · rw [hf1.fz (by omega) (by simp), m2]
    · rw [hf1.mm (by omega) (by simp), m3]
    · rw [hf1.fz (by omega) (by simp), m4]
  · rintro m e w2 hI
    obtain ⟨j, k, acc, ov, hjm, hj, hacc, hgo, hr2, o1, o2, f1, f2, hown, hne, hok, hf, e15, e14, e6, e7, e8, e1, e2⟩ := id hI
    subst hjm
    by_cases hjl : j < K.length
    · refine read_step hvl hm hK hjl hI (fun e' w'' hN => ⟨K.length - (j + 1), by omega, hN⟩) (fun ch e' w' h => ?_)
      exact h
    · have hje : j = K.length := by omega
      subst hje
      unfold F59B0
      rw [List.drop_length, readGo] at hgo
      have hov1 : ov.oneCell' = true := by obtain ⟨a, c, rfl⟩ := own_val hown; rfl
      try simp (maxDischargeDepth := 8) [↓sC, sB, sM, e15, e14, e8]
      refine (end_spec hr2).call ?_ ?_
      · rintro x w3 ⟨hk, hf3⟩
        have hnl : ¬ 0 < (B.drop k).length := by simp; omega
        rw [if_neg hnl] at hgo
        have hlt1 := lt_of_fz o2
        have hlt2 := lt_of_fz f2
        have a1 : mm w3 (sz w) = [ov] := by rw [hf3.mm hlt1 (by simp), o1]
        have a2 : fz w3 (sz w) = false := by rw [hf3.fz hlt1 (by simp), o2]
        have a3 : mm w3 (sz w + 1) = [i64 0, i64 0] := by rw [hf3.mm hlt2 (by simp), f1]
        have a4 : fz w3 (sz w + 1) = false := by rw [hf3.fz hlt2 (by simp), f2]
        have n1 : ¬ sz w + 1 = sz w := by omega
        have n2 : ¬ sz w = sz w + 1 := by omega
        try simp (maxDischargeDepth := 8) [↓sC, sB, sM, e6, e7, a1, a2, a3, a4, bld44, hov1, n1, n2, splice]
        obtain ⟨W3, hW3⟩ : ∃ W3, W3 = wr (wr w3 (sz w) [ov]) (sz w + 1) [i64 0, i64 0] := ⟨_, rfl⟩
        have hfW3 : Fr [sz w, sz w + 1] w3 W3 := by rw [hW3]; exact ((Fr.refl _ _).wr (.inl (by simp)) _).wr (.inl (by simp)) _
        have b1 : mm W3 (sz w) = [ov] := by rw [hW3, mm_wr_ne n2, mm_wr_same a2]
        have b3 : mm W3 (sz w + 1) = [i64 0, i64 0] := by rw [hW3, mm_wr_same (by rw [fz_wr, a4])]
        rw [← hW3]
        have hown3 : W3.ownsRow (sz w) 136 6 ov acc.length (flat partC acc) := by
          rw [hacc]
          exact own_fr (own_fr hown hf3 (by simp)) hfW3 (fun c hc => by have := hne c hc; simp; omega)
        refine leaveE_def (CallsD.mono readc_nil ?_)
        rintro x u' w4 ⟨rfl, rfl, hf4⟩
        refine ⟨_, rfl, settle_returning, ?_⟩
        have hs3 := hf3.size
        have hs4 := hfW3.size
        try simp (maxDischargeDepth := 8) [↓sC, sB, sM, put_get, e6, e7, hf4.mm (show sz w < sz W3 by omega) (by simp), hf4.mm (show sz w + 1 < sz W3 by omega) (by simp), b1, b3]
        rw [← hgo]
        exact ⟨ov, rfl, own_fr hown3 hf4 (by simp), hok, ((hf.trans0 hf3).trans hfW3 (fun c hc => .inr (by simp at hc; omega))).trans0 hf4⟩
      · rintro ch w3 ⟨hk, rfl, hf3⟩
        have hnl : 0 < (B.drop k).length := by simp; omega
        rw [if_pos hnl] at hgo
        have hlt1 := lt_of_fz o2
        have hlt2 := lt_of_fz f2
        exact read_fails (c := 3) hgo.symm (by decide) (by rw [hf3.mm hlt1 (by simp), o1]) (by rw [hf3.fz hlt1 (by simp), o2]) (by rw [hf3.mm hlt2 (by simp), f1]) (by rw [hf3.fz hlt2 (by simp), f2]) (hf.trans0 hf3) (by simp [put_get, e6]) (by simp [put_get, e7])
end Go.Proofs.YtieejbkbdfccdaaGreat

set_option linter.unusedVariables false
set_option linter.unusedSimpArgs false
namespace Go.Proofs.YtieejbkbdfccdaaGreat
open Go
theorem pow9 : (128 : Nat) ^ 9 = 9223372036854775808 := by decide
theorem ofNat_lt {n : Nat} (h : n < 256) : (UInt8.ofNat n).toNat = n := by rw [UInt8.toNat_ofNat']; omega
theorem num_digits : ∀ (n i acc : Nat) (r : List UInt8), i ≤ 9 → acc + n * 128 ^ i < 18446744073709551616 → (n ≠ 0 ∨ i = 0) →
    numGo acc i (digits n ++ r) = (acc + n * 128 ^ i, i + (digits n).length, 0) := by
  intro n
  induction n using Nat.strongRecOn with
  | _ n ih =>
    intro i acc r hi hb hz
    by_cases h : n < 128
    · rw [digits_lt h]
      have hx : (UInt8.ofNat n).toNat = n := ofNat_lt (by omega)
      have hbad : ¬ (i = 9 ∧ 1 < (UInt8.ofNat n).toNat) := by
        rintro ⟨rfl, h1⟩
        rw [hx] at h1
        rw [pow9] at hb
        omega
      have hz2 : ¬ ((UInt8.ofNat n).toNat = 0 ∧ 0 < i) := by rw [hx]; omega
      simp only [List.singleton_append, numGo]
      rw [if_neg hbad, if_pos (by omega), if_neg hz2, hx]
      simp
    · rw [digits_ge h]
      have hi8 : i < 9 := by
        rcases Nat.lt_or_ge i 9 with h9 | h9
        · exact h9
        · have : i = 9 := by omega
          subst this
          rw [pow9] at hb
          omega
      have hx : (UInt8.ofNat (n % 128 + 128)).toNat = n % 128 + 128 := ofNat_lt (by omega)
      have hq : n / 128 ≠ 0 := by omega
      have e1 : 128 ^ (i + 1) = 128 * 128 ^ i := by rw [Nat.pow_succ, Nat.mul_comm]
      have e2 : acc + n % 128 * 128 ^ i + n / 128 * 128 ^ (i + 1) = acc + n * 128 ^ i := by
        rw [e1, ← Nat.mul_assoc, Nat.add_assoc, ← Nat.add_mul]
        congr 2
        omega
      simp only [List.cons_append, numGo]
      rw [if_neg (by omega), if_neg (by omega), hx]
      have hm : (n % 128 + 128) % 128 = n % 128 := by omega
      rw [hm, ih (n / 128) (by omega) (i + 1) _ r (by omega) (by rw [e2]; exact hb) (.inl hq), e2]
      simp only [List.length_cons]
      congr 2
      omega
theorem num_digits0 {n : Nat} (r : List UInt8) (h : n < 18446744073709551616) : num (digits n ++ r) = (n, (digits n).length, 0) := by
  unfold num
  rw [num_digits n 0 0 r (by omega) (by simpa using h) (.inr rfl)]
  simp
/-! ### Places -/
theorem H63x2 : 2 * H63 = 18446744073709551616 := by decide
theorem placeM_placeB {k : Nat} (r : List UInt8) (h : k < 18446744073709551616) : placeM 8 0 (placeB k ++ r) = (k, 8, 0) := by
  simp only [placeB, List.cons_append, List.nil_append, placeM, UInt8.toNat_ofNat']
  congr 1
  omega
theorem floatM_enc {a : Nat} (r : List UInt8) (h : a < 2 * H63) : floatM (placeB (key a) ++ r) = (canon a, 8, 0) := by
  have hk := key_lt h
  rw [H63x2] at hk
  unfold floatM
  rw [placeM_placeB r hk]
  simp [key_back h, key_canon]
/-! ### Parts -/
theorem enc_part {p : PartP} {most : Int} (r : List UInt8) (hk : p.kind = 117 ∨ p.kind = 105 ∨ p.kind = 102 ∨ p.kind = 115 ∨ p.kind = 98) (hok : okP p) (hs : (p.s.length : Int) ≤ most) (hs2 : p.s.length < 18446744073709551616) :
    ∃ q, partM p.kind most (encP p ++ r) = (q, (encP p).length, 0) ∧ plain q = plain p := by
  obtain ⟨hu, hi, hf⟩ := hok
  rw [H63x2] at hu
  rcases hk with h | h | h | h | h
  · have he : encP p = digits p.u := by unfold encP; rw [if_pos h]
    rw [he]
    refine ⟨{ zP p.kind with u := p.u }, ?_, ?_⟩
    · unfold partM; rw [if_pos h, num_digits0 r hu]
    · simp [plain, zP, h]
  · have h1 : ¬ p.kind = 117 := by rw [h]; decide
    have he : encP p = digits (zig p.i) := by unfold encP; rw [if_neg h1, if_pos h]
    rw [he]
    have hz := zig_lt hi.1 hi.2
    rw [H63x2] at hz
    refine ⟨{ zP p.kind with i := p.i }, ?_, ?_⟩
    · unfold partM; rw [if_neg h1, if_pos h, num_digits0 r hz]; simp [zag_zig]
    · simp [plain, zP, h]
  · have h1 : ¬ p.kind = 117 := by rw [h]; decide
    have h2 : ¬ p.kind = 105 := by rw [h]; decide
    have he : encP p = placeB (key p.f) := by unfold encP; rw [if_neg h1, if_neg h2, if_pos h]
    rw [he]
    refine ⟨{ zP p.kind with f := canon p.f }, ?_, ?_⟩
    · unfold partM; rw [if_neg h1, if_neg h2, if_pos h, floatM_enc r hf]; rfl
    · simp [plain, zP, h, key_canon]
  · have h1 : ¬ p.kind = 117 := by rw [h]; decide
    have h2 : ¬ p.kind = 105 := by rw [h]; decide
    have h3 : ¬ p.kind = 102 := by rw [h]; decide
    have he : encP p = digits p.s.length ++ p.s := by unfold encP; rw [if_neg h1, if_neg h2, if_neg h3, if_pos h]
    rw [he]
    have hstr : strM most (digits p.s.length ++ p.s ++ r) = (p.s, (digits p.s.length).length + p.s.length, 0) := by
      unfold strM
      rw [List.append_assoc, num_digits0 (p.s ++ r) hs2]
      simp only [ne_eq, not_true_eq_false, if_false]
      rw [if_neg (by omega), if_neg (by simp)]
      simp
    refine ⟨{ zP p.kind with s := p.s }, ?_, ?_⟩
    · unfold partM; rw [if_neg h1, if_neg h2, if_neg h3, if_pos h, hstr, List.length_append]
    · simp [plain, zP, h]
  · have h1 : ¬ p.kind = 117 := by rw [h]; decide
    have h2 : ¬ p.kind = 105 := by rw [h]; decide
    have h3 : ¬ p.kind = 102 := by rw [h]; decide
    have h4 : ¬ p.kind = 115 := by rw [h]; decide
    have he : encP p = [if p.b then 1 else 0] := by unfold encP; rw [if_neg h1, if_neg h2, if_neg h3, if_neg h4, if_pos h]
    rw [he]
    refine ⟨{ zP p.kind with b := p.b }, ?_, ?_⟩
    · unfold partM; rw [if_neg h1, if_neg h2, if_neg h3, if_neg h4, if_pos h]
      cases p.b <;> simp [flagM]
    · simp [plain, zP, h]
/-! ### Rows of parts -/
def OkL (most : Int) (L : List PartP) : Prop := ∀ p ∈ L, (p.kind = 117 ∨ p.kind = 105 ∨ p.kind = 102 ∨ p.kind = 115 ∨ p.kind = 98) ∧ okP p ∧ (p.s.length : Int) ≤ most ∧ p.s.length < 18446744073709551616
/-- What was written is read, up to what stands behind it. -/
theorem read_enc {most : Int} : ∀ (L : List PartP) (k : Nat) (acc : List PartP) (more : List UInt8), OkL most L →
    ∃ M, M.map plain = L.map plain ∧ readGo most (L.map (·.kind)) (encAll L ++ more) k acc = if 0 < more.length then ([], 3, k + (encAll L).length) else (acc ++ M, 0, 0) := by
  intro L
  induction L with
  | nil =>
    intro k acc more _
    refine ⟨[], rfl, ?_⟩
    simp [encAll, readGo]
  | cons p L ih =>
    intro k acc more h
    obtain ⟨h1, h2, h3, h4⟩ := h p List.mem_cons_self
    obtain ⟨q, hq, hpq⟩ := enc_part (most := most) (encAll L ++ more) h1 h2 h3 h4
    obtain ⟨M, hM, hr⟩ := ih (k + (encP p).length) (acc ++ [q]) more (fun p hp => h p (List.mem_cons_of_mem _ hp))
    refine ⟨q :: M, by simp [hM, hpq], ?_⟩
    rw [List.map_cons, encAll_cons, List.append_assoc, readGo, hq]
    simp only [ne_eq, not_true_eq_false, if_false, List.drop_left]
    rw [hr, List.length_append, Nat.add_assoc, List.append_assoc]
    rfl
theorem encP_len {p : PartP} (hok : okP p) (hs : p.s.length < 18446744073709551616) : (encP p).length ≤ p.s.length + 10 := by
  obtain ⟨hu, hi, hf⟩ := hok
  have h10 : ∀ n, n < 2 * H63 → (digits n).length ≤ 10 := fun n hn => digits_len 9 n (by
    have e : (128 : Nat) ^ (9 + 1) = 1180591620717411303424 := by decide
    rw [e]; unfold H63 at hn; omega)
  unfold encP
  split
  · have := h10 _ hu; omega
  · split
    · have := h10 _ (zig_lt hi.1 hi.2); omega
    · split
      · have : (placeB (key p.f)).length = 8 := rfl
        omega
      · split
        · rw [List.length_append]
          have := h10 _ (by rw [H63x2]; exact hs)
          omega
        · split
          · simp
          · simp
end Go.Proofs.YtieejbkbdfccdaaGreat
