/- What a Reader's calls do: a value, or a Fault that is thrown. -/
import Derived.Test.YtieejbkbdfccdaaSim
import Derived.Test.YtieejbkbdfccdaaPrims4
import Derived.Test.YtieejbkbdfccdaaTypes
import Derived.Test.YtieejbkbdfccdaaPackM
import Derived.Test.YtieejbkbdfccdaaFloWalk
import Derived.Test.YtieejbkbdfccdaaWPack
set_option linter.unusedVariables false
set_option linter.unusedSimpArgs false
namespace Go.Proofs.Ytieejbkbdfccdaa
open Go

abbrev faultV (c : Int) (k : Nat) : Value := .iface 35 (.agg #[i64 c, i64 k])
abbrev faultC (c : Int) (k : Nat) : List PanicEntry := [{ v := faultV c k, recovered := false }]
/-- At block 'b' lies a Reader of the slice 'v', whose bytes are 'B', of which 'k' were read. -/
structure IsRd (w : World) (b : Nat) (v : Value) (B : List UInt8) (k : Nat) : Prop where
  cell : mm w b = [v, i64 k]
  fz : fz w b = false
  rd : RdV w v B.length (bs B)
  le : k ≤ B.length
  ne : 0 < B.length → ∀ c, v.ownBlock = some c → c ≠ b
theorem RdV.len {w : World} {v : Value} {n : Nat} {cs : List Value} (h : RdV w v n cs) : n ≤ 9223372036854775807 := by
  rcases h with ⟨_, _, _, h0, _⟩ | ⟨_, _, _, _, h1, h2, _⟩
  · omega
  · have : maxLen = 9223372036854775807 := rfl
    omega
theorem rdb_fr {w w' : World} {S : List Nat} {v : Value} {B : List UInt8} (h : RdV w v B.length (bs B)) (hf : Fr S w w') (hS : 0 < B.length → ∀ b, v.ownBlock = some b → b < sz w → b ∉ S) : RdV w' v B.length (bs B) := by
  by_cases hn : 0 < B.length
  · rcases h with h | ⟨b, o, c, rfl, h1, h2, h3, h4, h5⟩
    · exact .inl h
    · have hm := hf.mm h3 (hS hn b rfl h3)
      exact .inr ⟨b, o, c, rfl, h1, h2, hf.lt h3, by rw [hm]; exact h4, by rw [hm]; exact h5⟩
  · have h0 : B = [] := List.eq_nil_of_length_eq_zero (by omega)
    subst h0
    obtain ⟨a, c, rfl⟩ := sl_of h
    exact .inl ⟨a, c, rfl, rfl, rfl⟩
theorem rdb_lt {w : World} {v : Value} {B : List UInt8} (h : RdV w v B.length (bs B)) (h0 : 0 < B.length) {c : Nat} (hc : v.ownBlock = some c) : c < sz w := by
  rcases h with ⟨_, _, _, h1, _⟩ | ⟨b, o, cc, rfl, _, _, h3, _⟩
  · omega
  · simp [Value.ownBlock] at hc; omega
theorem IsRd.fr {w w' : World} {b : Nat} {v : Value} {B : List UInt8} {k : Nat} {S : List Nat} (h : IsRd w b v B k) (hf : Fr S w w') (hb : b ∉ S) (hv : 0 < B.length → ∀ c, v.ownBlock = some c → c < sz w → c ∉ S) : IsRd w' b v B k := by
  have hlt := lt_of_fz h.fz
  exact ⟨by rw [hf.mm hlt hb, h.cell], by rw [hf.fz hlt hb, h.fz], rdb_fr h.rd hf hv, h.le, h.ne⟩
theorem IsRd.fr0 {w w' : World} {b : Nat} {v : Value} {B : List UInt8} {k : Nat} (h : IsRd w b v B k) (hf : Fr [] w w') : IsRd w' b v B k := h.fr hf (by simp) (by simp)
theorem IsRd.at_ {w : World} {b : Nat} {v : Value} {B : List UInt8} {k k' : Nat} (h : IsRd w b v B k) (hk : k' ≤ B.length) : IsRd (wr w b [v, i64 k']) b v B k' :=
  ⟨mm_wr_same h.fz _, by rw [fz_wr, h.fz], rdb_fr h.rd ((Fr.refl [b] w).wr (.inl (by simp)) _) (fun h0 c hc _ => by simpa using h.ne h0 c hc), hk, h.ne⟩

/-- A call that reads: 'r' is what, how many bytes, and the error's number. -/
def Rd {α : Type} (f : FuncId) (args : Array Value) (w : World) (b : Nat) (v : Value) (B : List UInt8) (k : Nat) (enc : α → Value) (r : α × Nat × Nat) : Prop :=
  Thr P f args w (fun x w' => r.2.2 = 0 ∧ x = enc r.1 ∧ IsRd w' b v B (k + r.2.1) ∧ Fr [b] w w') (fun c w' => r.2.2 ≠ 0 ∧ c = faultC r.2.2 (k + r.2.1) ∧ Fr [b] w w')

theorem concrete44 : P.concrete 35 = true := by kernel_rfl
theorem pIface44 {w : World} {v : Value} : pIface P 35 v w = some (.iface 35 v, w) := pIface_eq concrete44
theorem fail_spec {w : World} {b : Nat} {v : Value} {B : List UInt8} {k : Nat} {c : Int} (h : IsRd w b v B k) : Thr P 46 #[pt b 0, i64 c] w (fun _ _ => False) (fun ch w' => ch = faultC c k ∧ w' = w) := by
  refine F46ok ?_
  unfold F46
  try simp (maxDischargeDepth := 8) [↓sC, sB, sM, h.cell, pIface44, panicE_iface]

def oneM : List UInt8 → UInt8 × Nat × Nat
  | [] => (0, 0, 2)
  | x :: _ => (x, 1, 0)
theorem drop_gb {B : List UInt8} {k : Nat} (h : k < B.length) : B.drop k = gb B k :: B.drop (k + 1) := by
  rw [List.drop_eq_getElem_cons h]
  simp [gb, h]
theorem one_spec {w : World} {b : Nat} {v : Value} {B : List UInt8} {k : Nat} (h : IsRd w b v B k) : Rd 56 #[pt b 0] w b v B k bv (oneM (B.drop k)) := by
  refine F56ok ?_
  unfold F56
  obtain ⟨a, c, hv⟩ := sl_of h.rd
  have hv1 : v.oneCell' = true := by rw [hv]; rfl
  have hlen := h.rd.len
  have hle := h.le
  have hd := h.fr0 (Fr.refl [] w).drew
  have h0 := h.cell
  subst hv
  by_cases hk : k < B.length
  · have hki : ¬ (B.length : Int) ≤ k := by omega
    have hki2 : ¬ B.length ≤ k := by omega
    have hwr : IntKind.i64.wrap ((k : Int) + 1) = ((k + 1 : Nat) : Int) := wrap64 (by omega) (by omega)
    rw [drop_gb hk]
    have hn := (hd.at_ (k' := k + 1) (by omega)).rd
    rcases id hn with ⟨_, _, _, hz, _⟩ | ⟨ab, ao, ac, hv, h1, h2, h3, h4, h5⟩
    · omega
    · rw [hv] at hn h0 h hd ⊢
      have hwr2 : IntKind.i64.wrap (((k + 1 : Nat) : Int) - 1) = (k : Int) := wrap64 (by omega) (by omega) |>.trans (by omega)
      have hcell := hn.cell (j := k) (by simpa using hk)
      have hg : (bs B).getD k undef = bv (gb B k) := gt_bs hk
      have hkb : (k : Int) < B.length := by omega
      have hgt : gt (mm (wr (drew w) b [sl ab ao B.length ac, i64 (k + 1 : Nat)]) ab) (ao + k) = bv (gb B k) := hcell.2.trans hg
      obtain ⟨W, hW⟩ : ∃ W, W = wr (drew w) b [sl ab ao B.length ac, i64 (k + 1 : Nat)] := ⟨_, rfl⟩
      have hmW : mm W b = [sl ab ao B.length ac, i64 (k + 1 : Nat)] := by rw [hW]; exact mm_wr_same hd.fz _
      rw [← hW] at hcell hgt hn
      obtain ⟨q, hq⟩ : ∃ q : Int, q = ((k + 1 : Nat) : Int) := ⟨_, rfl⟩
      rw [← hq] at hW hmW hwr hwr2
      try simp (maxDischargeDepth := 8) [↓sC, sB, sM, h0, h.fz, hki, hki2, hwr, ← hW, hmW, hwr2, hkb, hk, hcell.1, hgt]
      rw [hq] at hW
      refine ⟨rfl, rfl, ?_, ?_⟩
      · rw [hW]; exact (hd.at_ (k' := k + 1) (by omega)).fr0 (Fr.refl [] _).drew
      · rw [hW]; exact ((Fr.refl [b] w).drew.wr (.inl (by simp)) _).drew
  · have hki : (B.length : Int) ≤ k := by omega
    have hki2 : B.length ≤ k := by omega
    rw [List.drop_eq_nil_of_le hki2]
    try simp (maxDischargeDepth := 8) [↓sC, sB, sM, h0, hki, hki2]
    refine (fail_spec (h.fr0 (Fr.refl [] w).drew)).call (fun _ _ hf => hf.elim) ?_
    rintro c w' ⟨rfl, rfl⟩
    try simp (maxDischargeDepth := 8) [↓sC, sB, sM, oneM]

theorem left_spec {w : World} {b : Nat} {v : Value} {B : List UInt8} {k : Nat} (h : IsRd w b v B k) : Ret P 47 #[pt b 0] w fun r w' => r = i64 ((B.length - k : Nat) : Int) ∧ Fr [] w w' := by
  refine F47ok ?_
  unfold F47
  obtain ⟨a, c, hv⟩ := sl_of h.rd
  subst hv
  have hlen := h.rd.len
  have hle := h.le
  have hwr : IntKind.i64.wrap ((B.length : Int) - k) = ((B.length - k : Nat) : Int) := wrap64 (by omega) (by omega) |>.trans (by omega)
  obtain ⟨q, hq⟩ : ∃ q : Int, q = ((B.length - k : Nat) : Int) := ⟨_, rfl⟩
  rw [← hq] at hwr ⊢
  simp (maxDischargeDepth := 8) [↓sC, sB, sM, h.cell, hwr]

theorem and127 (x : UInt8) : (x &&& 127).toNat = x.toNat % 128 := by
  have h : ∀ m : Nat, m < 256 → m &&& 127 = m % 128 := by decide +kernel
  rw [UInt8.toNat_and]
  exact h _ x.toNat_lt
theorem or_shift {n i y : Nat} (h : n < 128 ^ i) : n ||| (y * 2 ^ (7 * i)) = n + y * 128 ^ i := by
  have e : (2 : Nat) ^ (7 * i) = 128 ^ i := by rw [Nat.pow_mul]
  have := Nat.two_pow_add_eq_or_of_lt (i := 7 * i) (b := n) (by rw [e]; exact h) y
  rw [Nat.or_comm, Nat.mul_comm y, ← this, e, Nat.mul_comm, Nat.add_comm]

def RU (w : World) (b : Nat) (v : Value) (B : List UInt8) (k : Nat) (m : Nat) (e : Env) (w' : World) : Prop :=
  ∃ (i n : Nat) (s : Int), m = B.length - (k + i) ∧ i ≤ 9 ∧ n < 128 ^ i ∧ s = 7 * (i : Int) ∧ IsRd w' b v B (k + i) ∧ Fr [b] w w' ∧ numGo n i (B.drop (k + i)) = num (B.drop k) ∧ e 0 = pt b 0 ∧ e 3 = u64 n ∧ e 4 = i64 s

theorem rU_spec {w : World} {b : Nat} {v : Value} {B : List UInt8} {k : Nat} (h : IsRd w b v B k) : Rd 41 #[pt b 0] w b v B k u64 (num (B.drop k)) := by
  refine F41ok ?_
  unfold F41
  refine loopE_of (RU w b v B k) (B.length - k) ⟨0, 0, 0, rfl, by omega, by omega, by omega, h, Fr.refl _ _, rfl, by simp [put_get, argE_get], by simp [put_get], by simp [put_get]⟩ ?_
  rintro m e w1 ⟨i, n, s, hm, hi, hn, hs, hr, hf, hnum, e0, e3, e4⟩
  subst hm
  unfold F41B0
  try simp (maxDischargeDepth := 8) [↓sC, sB, sM, e0]
  refine (one_spec hr).call ?_ ?_
  · rintro _ w2 ⟨h1, rfl, hr2, hf2⟩
    by_cases hk : k + i < B.length
    · rw [drop_gb hk] at hnum h1 hr2 ⊢
      generalize gb B (k + i) = x at *
      simp only [oneM] at hr2 ⊢
      have g2 : Fr [b] w w2 := hf.trans hf2 (by simp)
      have hx := x.toNat_lt
      have hfail : ∀ {w3 : World} {c : Nat} {z : Nat}, Fr [] w2 w3 → numGo n i (x :: B.drop (k + i + 1)) = (0, z, c) → c ≠ 0 → z = i + 1 → ∀ ch w', (ch = faultC c (k + i + 1) ∧ w' = w3) →
          ((num (B.drop k)).2.2 ≠ 0 ∧ ch = faultC (num (B.drop k)).2.2 (k + (num (B.drop k)).2.1) ∧ Fr [b] w w') := by
        rintro w3 c z hf3 hz hc rfl ch w' ⟨rfl, rfl⟩
        rw [← hnum, hz]
        exact ⟨hc, by simp only [Nat.add_assoc], g2.trans0 hf3⟩
      have hand : ∀ w, pBin P .and 5 true (bv x) (Value.int .u8 127) w = some (bv (x &&& 127), w) := fun w => pAnd8 (x := x) (y := 127)
      have hcv : ∀ w, pConv P 5 26 (bv (x &&& 127)) w = some (u64 (x.toNat % 128), w) := fun w => by
        rw [pConv_int tyOk5 intK26, and127, wrapu (by unfold H63; omega)]
      by_cases hbad : i = 9 ∧ 1 < x.toNat
      · have hz : numGo n i (x :: B.drop (k + i + 1)) = (0, 10, 1) := by rw [numGo, if_pos hbad]
        have hs63 : s = 63 := by omega
        have hx1 : (1 : Int) < x.toNat := by omega
        try simp (maxDischargeDepth := 8) [↓sC, sB, sM, e0, e4, hs63, hx1, hbad.2]
        refine (fail_spec hr2).call (fun _ _ hF => hF.elim) ?_
        intro ch w' hch
        try simp (maxDischargeDepth := 8) [↓sC, sB, sM]
        exact hfail (Fr.refl _ _) hz (by omega) (by omega) ch w' hch
      · have hz0 : numGo n i (x :: B.drop (k + i + 1)) = if x.toNat < 128 then (if x.toNat = 0 ∧ 0 < i then (0, i + 1, 4) else (n + x.toNat * 128 ^ i, i + 1, 0)) else numGo (n + (x.toNat % 128) * 128 ^ i) (i + 1) (B.drop (k + i + 1)) := by
          rw [numGo, if_neg hbad]
        have h128 : (2 : Nat) ^ (7 * i) = 128 ^ i := by rw [Nat.pow_mul]
        have hb9 : 128 ^ i ≤ 128 ^ 9 := Nat.pow_le_pow_right (by omega) hi
        have hb9' : (128 : Nat) ^ 9 = H63 := by decide
        have hy : x.toNat % 128 * 2 ^ (7 * i) < 2 * H63 := by
          rw [h128]
          by_cases hi9 : i = 9
          · subst hi9
            have hx1 : x.toNat % 128 ≤ 1 := by
              have : ¬ 1 < x.toNat := fun h => hbad ⟨rfl, h⟩
              omega
            rw [hb9']
            have := Nat.mul_le_mul_right H63 hx1
            have hH : 0 < H63 := by decide
            omega
          · have h8 : 128 ^ i ≤ 128 ^ 8 := Nat.pow_le_pow_right (by omega) (by omega)
            have h1 : x.toNat % 128 * 128 ^ i ≤ 127 * 128 ^ 8 := Nat.mul_le_mul (by omega) h8
            have h2 : 127 * 128 ^ 8 < 2 * H63 := by decide
            omega
        have hs7 : s.toNat = 7 * i := by omega
        have hsh : ∀ w, pBin P .shl 26 false (u64 (x.toNat % 128)) (i64 s) w = some (u64 (x.toNat % 128 * 2 ^ (7 * i)), w) := fun w => by
          have := pShlU (P := P) (t := 26) (w := w) (lit := false) (a := x.toNat % 128) (k := .i64) (y := s) (by omega) (by omega) (by rw [hs7]; exact hy)
          rw [hs7] at this
          exact this
        obtain ⟨n', hn'⟩ : ∃ n', n' = n + (x.toNat % 128) * 128 ^ i := ⟨_, rfl⟩
        have hor : ∀ w, pBin P .or 26 false (u64 n) (u64 (x.toNat % 128 * 2 ^ (7 * i))) w = some (u64 n', w) := fun w => by
          rw [pOrU (by omega) hy, or_shift hn, hn']
        generalize x.toNat % 128 * 2 ^ (7 * i) = y at hsh hor
        rw [← hn'] at hz0
        have A : ((s = 63) = True ∧ (1 < x.toNat) = False ∧ ((1 : Int) < x.toNat) = False) ∨ ((s = 63) = False ∧ (i = i) ∧ (i = i)) := by
          by_cases hs63 : s = 63
          · have h9 : ¬ 1 < x.toNat := fun h => hbad ⟨by omega, h⟩
            exact .inl ⟨eq_true hs63, eq_false h9, eq_false (by omega)⟩
          · exact .inr ⟨eq_false hs63, rfl, rfl⟩
        have hwr : IntKind.i64.wrap (s + 7) = s + 7 := wrap64 (by omega) (by omega)
        rcases A with ⟨a1, a2, a3⟩ | ⟨a1, a2, a3⟩
        all_goals
          by_cases hx128 : x.toNat < 128
          · have b1 : ((128 : Int) ≤ x.toNat) = False := eq_false (by omega)
            have b2 : (128 ≤ x.toNat) = False := eq_false (by omega)
            rw [if_pos hx128] at hz0
            by_cases hzero : x.toNat = 0 ∧ 0 < i
            · rw [if_pos hzero] at hz0
              have c1 : (x = 0) = True := eq_true (UInt8.toNat_inj.1 (by rw [hzero.1]; rfl))
              have c2 : ((0 : Int) < s) = True := eq_true (by omega)
              try simp (maxDischargeDepth := 8) [↓sC, sB, sM, e0, e3, e4, a1, a2, a3, b1, b2, c1, c2, hand, hcv, hsh, hor]
              refine (fail_spec hr2).call (fun _ _ hF => hF.elim) ?_
              intro ch w' hch
              try simp (maxDischargeDepth := 8) [↓sC, sB, sM]
              exact hfail (Fr.refl _ _) hz0 (by omega) rfl ch w' hch
            · rw [if_neg hzero] at hz0
              have hfin : (num (B.drop k)).2.2 = 0 ∧ (n' : Int) = ((num (B.drop k)).1 : Int) ∧ IsRd w2 b v B (k + (num (B.drop k)).2.1) ∧ Fr [b] w w2 := by
                rw [← hnum, hz0]
                refine ⟨rfl, ?_, by simpa [Nat.add_assoc] using hr2, g2⟩
                rw [hn', Nat.mod_eq_of_lt hx128]
              by_cases hx0 : x = 0
              · have c1 : (x = 0) = True := eq_true hx0
                have c2 : ((0 : Int) < s) = False := eq_false (by
                  intro h0
                  refine hzero ⟨by rw [hx0]; rfl, by omega⟩)
                try simp (maxDischargeDepth := 8) [↓sC, sB, sM, e0, e3, e4, a1, a2, a3, b1, b2, c1, c2, hand, hcv, hsh, hor]
                exact hfin
              · have c1 : (x = 0) = False := eq_false hx0
                try simp (maxDischargeDepth := 8) [↓sC, sB, sM, e0, e3, e4, a1, a2, a3, b1, b2, c1, hand, hcv, hsh, hor]
                exact hfin
          · have b1 : ((128 : Int) ≤ x.toNat) = True := eq_true (by omega)
            have b2 : (128 ≤ x.toNat) = True := eq_true (by omega)
            rw [if_neg hx128] at hz0
            have hi8 : i < 9 := by
              rcases Nat.lt_or_ge i 9 with h | h
              · exact h
              · exact absurd ⟨by omega, by omega⟩ hbad
            have hn2 : n' < 128 ^ (i + 1) := by
              have h1 : x.toNat % 128 * 128 ^ i ≤ 127 * 128 ^ i := Nat.mul_le_mul_right _ (by omega)
              have h2 : 128 ^ (i + 1) = 128 * 128 ^ i := by rw [Nat.pow_succ, Nat.mul_comm]
              omega
            try simp (maxDischargeDepth := 8) [↓sC, sB, sM, e0, e3, e4, a1, a2, a3, b1, b2, hand, hcv, hsh, hor, hwr]
            refine ⟨B.length - (k + (i + 1)), by omega, i + 1, n', s + 7, rfl, by omega, hn2, by omega, hr2, g2, ?_, by simp [put_get, e0], by simp [put_get], by simp [put_get]⟩
            rw [← hnum, hz0]
            rfl
    · have hnil : B.drop (k + i) = [] := List.drop_eq_nil_of_le (by omega)
      rw [hnil] at h1
      simp [oneM] at h1
  · rintro ch w2 ⟨h1, rfl, hf2⟩
    have hk : ¬ k + i < B.length := by
      intro hk
      rw [drop_gb hk] at h1
      exact h1 rfl
    have hnil : B.drop (k + i) = [] := List.drop_eq_nil_of_le (by omega)
    rw [hnil] at hnum ⊢
    simp only [numGo] at hnum
    try simp (maxDischargeDepth := 8) [↓sC, sB, sM, oneM]
    rw [← hnum]
    exact ⟨by simp, by simp, hf.trans hf2 (by simp)⟩

theorem zag_bits (n : Nat) (hn : n < 2 * H63) :
    (BitVec.ofInt 64 (IntKind.i64.wrap ((n / 2 : Nat) : Int)) ^^^ BitVec.ofInt 64 (IntKind.i64.wrap (0 - IntKind.i64.wrap ((n &&& 1 : Nat) : Int)))).toInt = zag n := by
  have hH : 2 * H63 = 18446744073709551616 := by decide
  rw [hH] at hn
  have h1 : n &&& 1 = n % 2 := Nat.and_one_is_mod n
  have e1 : IntKind.i64.wrap ((n / 2 : Nat) : Int) = ((n / 2 : Nat) : Int) := wrap64 (by omega) (by omega)
  rw [h1, e1]
  unfold zag
  by_cases hp : n % 2 = 1
  · rw [if_pos hp, hp]
    have e2 : BitVec.ofInt 64 (IntKind.i64.wrap (0 - IntKind.i64.wrap ((1 : Nat) : Int))) = BitVec.allOnes 64 := by decide
    have e3 : ∀ x : BitVec 64, x ^^^ BitVec.allOnes 64 = ~~~ x := fun x => by rw [BitVec.xor_comm, BitVec.allOnes_xor]
    rw [e2, e3, BitVec.toInt_not, BitVec.toNat_ofInt]
    have e4 : (((n / 2 : Nat) : Int) % ((2 ^ 64 : Nat) : Int)).toNat = n / 2 := by omega
    rw [e4]
    simp only [Int.bmod]
    omega
  · have hp0 : n % 2 = 0 := by omega
    rw [if_neg hp, hp0]
    have e2 : BitVec.ofInt 64 (IntKind.i64.wrap (0 - IntKind.i64.wrap ((0 : Nat) : Int))) = 0 := by decide
    have e3 : ∀ x : BitVec 64, x ^^^ 0 = x := fun x => by simp
    rw [e2, e3, BitVec.toInt_ofInt]
    simp only [Int.bmod]
    omega
theorem num_lt {l : List UInt8} (h : (num l).2.2 = 0) : (num l).1 < 2 * H63 := by
  have key : ∀ (l : List UInt8) (n i : Nat), i ≤ 9 → n < 128 ^ i → (numGo n i l).2.2 = 0 → (numGo n i l).1 < 2 * H63 := by
    intro l
    induction l with
    | nil => intro n i _ _ h; simp [numGo] at h
    | cons x r ih =>
      intro n i hi hn h
      have hx := x.toNat_lt
      rw [numGo] at h ⊢
      by_cases hbad : i = 9 ∧ 1 < x.toNat
      · rw [if_pos hbad] at h; simp at h
      · rw [if_neg hbad] at h ⊢
        have h9 : (128 : Nat) ^ 9 = H63 := by decide
        by_cases hx128 : x.toNat < 128
        · rw [if_pos hx128] at h ⊢
          by_cases hz : x.toNat = 0 ∧ 0 < i
          · rw [if_pos hz] at h; simp at h
          · rw [if_neg hz]
            show n + x.toNat * 128 ^ i < 2 * H63
            by_cases hi9 : i = 9
            · subst hi9
              have hx1 : x.toNat ≤ 1 := by
                have : ¬ 1 < x.toNat := fun h => hbad ⟨rfl, h⟩
                omega
              have := Nat.mul_le_mul_right (128 ^ 9) hx1
              omega
            · have h8 : 128 ^ i ≤ 128 ^ 8 := Nat.pow_le_pow_right (by omega) (by omega)
              have h1 : x.toNat * 128 ^ i ≤ 127 * 128 ^ 8 := Nat.mul_le_mul (by omega) h8
              have h2 : 128 ^ 8 + 127 * 128 ^ 8 < 2 * H63 := by decide
              omega
        · rw [if_neg hx128] at h ⊢
          have hi8 : i < 9 := by
            rcases Nat.lt_or_ge i 9 with h | h
            · exact h
            · exact absurd ⟨by omega, by omega⟩ hbad
          refine ih _ (i + 1) (by omega) ?_ h
          have h1 : x.toNat % 128 * 128 ^ i ≤ 127 * 128 ^ i := Nat.mul_le_mul_right _ (by omega)
          have h2 : 128 ^ (i + 1) = 128 * 128 ^ i := by rw [Nat.pow_succ, Nat.mul_comm]
          omega
  exact key l 0 0 (by omega) (by omega) h
theorem zag_range {n : Nat} (hn : n < 2 * H63) : -9223372036854775808 ≤ zag n ∧ zag n < 9223372036854775808 := by
  have hH : 2 * H63 = 18446744073709551616 := by decide
  rw [hH] at hn
  unfold zag; split <;> omega
theorem bitsi_xor (x y : Int) : (Op.intBits .xor .i64 x y : Sem Value) = pure (.int .i64 (IntKind.i64.wrap (BitVec.ofInt 64 x ^^^ BitVec.ofInt 64 y).toNat)) := rfl
theorem wrap_toNat (x : BitVec 64) : IntKind.i64.wrap (x.toNat : Int) = x.toInt := by
  have := x.isLt
  rw [BitVec.toInt_eq_toNat_cond]
  unfold IntKind.wrap
  simp only [IntKind.bits, IntKind.signed, Bool.true_and, ge_iff_le, decide_eq_true_eq]
  split <;> split <;> omega

theorem rI_spec {w : World} {b : Nat} {v : Value} {B : List UInt8} {k : Nat} (h : IsRd w b v B k) : Rd 42 #[pt b 0] w b v B k (fun n => i64 (zag n)) (num (B.drop k)) := by
  refine F42ok ?_
  unfold F42
  refine (rU_spec h).call ?_ ?_
  · rintro _ w1 ⟨h1, rfl, hr, hf⟩
    have hn := num_lt h1
    generalize num (B.drop k) = r at *
    obtain ⟨n, z, c⟩ := r
    simp only at h1 hr hn ⊢
    have hsh : ∀ w, pBin P .shr 26 true (u64 n) (Value.int .u64 1) w = some (u64 (n / 2), w) := fun w => by
      have := pShrU (P := P) (t := 26) (w := w) (lit := true) (a := n) (k := .u64) (y := 1) (by omega) (by omega)
      simpa using this
    have han : ∀ w, pBin P .and 26 true (u64 n) (Value.int .u64 1) w = some (u64 (n &&& 1), w) := fun w => pAndU (a := n) (b := 1) hn (by decide)
    have hc : ∀ (m : Nat) w, pConv P 26 2 (u64 m) w = some (i64 (IntKind.i64.wrap m), w) := fun m w => pConv_int tyOk26 intK2
    have hxor : ∀ w, pBin P .xor 2 false (i64 (IntKind.i64.wrap ((n / 2 : Nat) : Int))) (i64 (IntKind.i64.wrap (0 - IntKind.i64.wrap ((n &&& 1 : Nat) : Int)))) w = some (i64 (zag n), w) := fun w => by
      refine pBin_bits ?_ (.inr (.inr (.inl rfl)))
      rw [bitsi_xor, wrap_toNat, zag_bits n hn]
      rfl
    generalize n / 2 = n2 at hsh hxor
    generalize n &&& 1 = n1 at han hxor
    obtain ⟨x2, hx2⟩ : ∃ x2, x2 = IntKind.i64.wrap (n2 : Int) := ⟨_, rfl⟩
    obtain ⟨x1, hx1⟩ : ∃ x1, x1 = IntKind.i64.wrap (n1 : Int) := ⟨_, rfl⟩
    obtain ⟨y1, hy1⟩ : ∃ y1, y1 = IntKind.i64.wrap (0 - x1) := ⟨_, rfl⟩
    have hneg : ∀ w, pUn P .neg (i64 x1) w = some (i64 y1, w) := fun w => by rw [hy1]; exact pUn_neg
    rw [← hx2, ← hx1, ← hy1] at hxor
    simp only [↓sC, sB, sM, hsh, han, cv2, tyOk26, ← hx2, ← hx1, hneg, hxor]
    exact ⟨h1, trivial, hr, hf⟩
  · rintro ch w1 hx
    try simp (maxDischargeDepth := 8) [↓sC, sB, sM]
    exact hx

/-- A place, read of eight bytes. -/
def placeM : Nat → Nat → List UInt8 → Nat × Nat × Nat
  | 0, k, _ => (k, 0, 0)
  | n + 1, k, [] => (0, 0, 2)
  | n + 1, k, x :: r => let q := placeM n (k * 256 + x.toNat) r; (q.1, q.2.1 + 1, q.2.2)
def floatM (l : List UInt8) : Nat × Nat × Nat :=
  let q := placeM 8 0 l
  if q.2.2 ≠ 0 then q else if key (backB q.1) = q.1 then (backB q.1, q.2.1, 0) else (0, q.2.1, 4)
theorem placeM_lt : ∀ (n k : Nat) (l : List UInt8) (m : Nat), k < 256 ^ m → (placeM n k l).2.2 = 0 → (placeM n k l).1 < 256 ^ (m + n) := by
  intro n
  induction n with
  | zero => intro k l m hk _; exact hk
  | succ n ih =>
    intro k l m hk h
    cases l with
    | nil => simp [placeM] at h
    | cons x r =>
      simp only [placeM] at h ⊢
      have hx := x.toNat_lt
      have := ih (k * 256 + x.toNat) r (m + 1) (by rw [Nat.pow_succ]; omega) h
      have e : m + (n + 1) = m + 1 + n := by omega
      rw [e]; exact this

def RF (w : World) (b : Nat) (v : Value) (B : List UInt8) (k : Nat) (m : Nat) (e : Env) (w' : World) : Prop :=
  ∃ (i n : Nat), m + i = 8 ∧ n < 256 ^ i ∧ IsRd w' b v B (k + i) ∧ Fr [b] w w' ∧ (placeM 8 0 (B.drop k)).1 = (placeM m n (B.drop (k + i))).1 ∧ (placeM 8 0 (B.drop k)).2.1 = (placeM m n (B.drop (k + i))).2.1 + i ∧
    (placeM 8 0 (B.drop k)).2.2 = (placeM m n (B.drop (k + i))).2.2 ∧ e 0 = pt b 0 ∧ e 3 = u64 n ∧ e 6 = i64 i

theorem rF_spec {w : World} {b : Nat} {v : Value} {B : List UInt8} {k : Nat} (h : IsRd w b v B k) : Rd 43 #[pt b 0] w b v B k fl (floatM (B.drop k)) := by
  refine F43ok ?_
  unfold F43
  refine loopE_of (RF w b v B k) 8 ⟨0, 0, rfl, by omega, h, Fr.refl _ _, rfl, rfl, rfl, by simp [put_get, argE_get], by simp [put_get], by simp [put_get]⟩ ?_
  rintro m e w1 ⟨i, n, hm, hn, hr, hf, hp1, hp2, hp3, e0, e3, e6⟩
  unfold F43B0
  have h256 : (256 : Nat) ^ 8 = 2 * H63 := by decide
  cases m with
  | zero =>
    have hi : i = 8 := by omega
    subst hi
    simp only [placeM] at hp1 hp2 hp3
    have hn8 : n < 2 * H63 := by omega
    try simp (maxDischargeDepth := 8) [↓sC, sB, sM, e0, e3, e6]
    refine (back_spec hn8).call ?_
    rintro _ w2 ⟨rfl, hf2⟩
    have hr2 := hr.fr0 hf2
    by_cases hkk : key (backB n) = n
    · try simp (maxDischargeDepth := 8) [↓sC, sB, sM, e0, hkk]
      have : floatM (B.drop k) = (backB n, 8, 0) := by
        unfold floatM
        simp only [hp1, hp2, hp3]
        simp [hkk]
      rw [this]
      exact ⟨rfl, rfl, hr2, hf.trans0 hf2⟩
    · have : floatM (B.drop k) = (0, 8, 4) := by
        unfold floatM
        simp only [hp1, hp2, hp3]
        simp [hkk]
      rw [this]
      try simp (maxDischargeDepth := 8) [↓sC, sB, sM, e0, hkk]
      refine (fail_spec hr2).call (fun _ _ hF => hF.elim) ?_
      rintro ch w3 ⟨rfl, rfl⟩
      try simp (maxDischargeDepth := 8) [↓sC, sB, sM]
      exact hf.trans0 hf2
  | succ m =>
    have hi8 : (i : Int) < 8 := by omega
    have hi8' : i < 8 := by omega
    have hle : 256 ^ i ≤ 256 ^ 7 := Nat.pow_le_pow_right (by omega) (by omega)
    have hlt : n * 2 ^ 8 < 2 * H63 := by
      have : (256 : Nat) ^ 7 * 2 ^ 8 = 2 * H63 := by decide
      have := Nat.mul_lt_mul_of_pos_right (Nat.lt_of_lt_of_le hn hle) (show 0 < 2 ^ 8 by omega)
      omega
    have hsh : ∀ w, pBin P .shl 26 true (u64 n) (Value.int .u64 8) w = some (u64 (n * 256), w) := fun w => by
      have := pShlU (P := P) (t := 26) (w := w) (lit := true) (a := n) (k := .u64) (y := 8) (by omega) (by omega) hlt
      simpa using this
    obtain ⟨q, hq⟩ : ∃ q, q = n * 256 := ⟨_, rfl⟩
    rw [← hq] at hsh
    try simp (maxDischargeDepth := 8) [↓sC, sB, sM, e0, e3, e6, hi8, hi8', hsh]
    refine (one_spec hr).call ?_ ?_
    · rintro _ w2 ⟨h1, rfl, hr2, hf2⟩
      by_cases hk : k + i < B.length
      · rw [drop_gb hk] at hp1 hp2 hp3 h1 hr2 ⊢
        generalize gb B (k + i) = x at *
        simp only [oneM] at hr2 ⊢
        have hx := x.toNat_lt
        have hcv : ∀ w, pConv P 5 26 (bv x) w = some (u64 x.toNat, w) := fun w => by
          rw [pConv_int tyOk5 intK26, wrapu (by unfold H63; omega)]
        have hor : ∀ w, pBin P .or 26 false (u64 q) (u64 x.toNat) w = some (u64 (q + x.toNat), w) := fun w => by
          rw [pOrU (by omega) (by unfold H63; omega)]
          have := Nat.two_pow_add_eq_or_of_lt (i := 8) (b := x.toNat) hx n
          have e : q = 2 ^ 8 * n := by omega
          rw [e, this]
        obtain ⟨q2, hq2⟩ : ∃ q2, q2 = q + x.toNat := ⟨_, rfl⟩
        rw [← hq2] at hor
        have hwr : IntKind.i64.wrap ((i : Int) + 1) = ((i + 1 : Nat) : Int) := wrap64 (by omega) (by omega)
        obtain ⟨i1, hi1⟩ : ∃ i1 : Int, i1 = ((i + 1 : Nat) : Int) := ⟨_, rfl⟩
        rw [← hi1] at hwr
        try simp (maxDischargeDepth := 8) [↓sC, sB, sM, e0, e3, e6, hcv, hor, hwr]
        refine ⟨m, by omega, i + 1, q2, by omega, ?_, hr2, hf.trans hf2 (by simp), ?_, ?_, ?_, by simp [put_get, e0], by simp [put_get], by simp [put_get, hi1]⟩
        · rw [Nat.pow_succ, hq2, hq]
          generalize 256 ^ i = z at hn
          clear h256 hle hlt hsh hor hcv hp1 hp2 hp3
          omega
        · rw [hp1, hq2, hq]; rfl
        · rw [hp2, hq2, hq]; simp only [placeM, Nat.add_assoc]; omega
        · rw [hp3, hq2, hq]; rfl
      · have hnil : B.drop (k + i) = [] := List.drop_eq_nil_of_le (by omega)
        rw [hnil] at h1
        simp [oneM] at h1
    · rintro ch w2 ⟨h1, rfl, hf2⟩
      have hk : ¬ k + i < B.length := by
        intro hk
        rw [drop_gb hk] at h1
        exact h1 rfl
      have hnil : B.drop (k + i) = [] := List.drop_eq_nil_of_le (by omega)
      rw [hnil] at hp1 hp2 hp3 ⊢
      simp only [placeM] at hp1 hp2 hp3
      have : floatM (B.drop k) = (0, i, 2) := by
        unfold floatM
        have : placeM 8 0 (B.drop k) = (0, i, 2) := by
          generalize placeM 8 0 (B.drop k) = r at *
          obtain ⟨r1, r2, r3⟩ := r
          simp only at hp1 hp2 hp3
          rw [hp1, hp2, hp3]; simp
        rw [this]; simp
      rw [this]
      try simp (maxDischargeDepth := 8) [↓sC, sB, sM, oneM]
      exact hf.trans hf2 (by simp)

def flagM : List UInt8 → Bool × Nat × Nat
  | [] => (false, 0, 2)
  | x :: _ => if 1 < x.toNat then (false, 1, 4) else (decide (x = 1), 1, 0)
theorem rFlag_spec {w : World} {b : Nat} {v : Value} {B : List UInt8} {k : Nat} (h : IsRd w b v B k) : Rd 45 #[pt b 0] w b v B k Value.bool (flagM (B.drop k)) := by
  refine F45ok ?_
  unfold F45
  refine (one_spec h).call ?_ ?_
  · rintro _ w1 ⟨h1, rfl, hr, hf⟩
    by_cases hk : k < B.length
    · rw [drop_gb hk] at h1 hr ⊢
      generalize gb B k = x at *
      simp only [oneM] at hr ⊢
      by_cases hx : 1 < x.toNat
      · have c1 : (1 < x.toNat) = True := eq_true hx
        have c2 : ((1 : Int) < x.toNat) = True := eq_true (by omega)
        try simp (maxDischargeDepth := 8) [↓sC, sB, sM, c1, c2]
        refine (fail_spec hr).call (fun _ _ hF => hF.elim) ?_
        rintro ch w3 ⟨rfl, rfl⟩
        simp only [flagM, if_pos hx]
        try simp (maxDischargeDepth := 8) [↓sC, sB, sM]
        exact hf
      · have c1 : (1 < x.toNat) = False := eq_false hx
        have c2 : ((1 : Int) < x.toNat) = False := eq_false (by omega)
        simp only [flagM, if_neg hx]
        try simp (maxDischargeDepth := 8) [↓sC, sB, sM, c1, c2]
        exact ⟨hr, hf⟩
    · rw [List.drop_eq_nil_of_le (by omega)] at h1
      simp [oneM] at h1
  · rintro ch w2 ⟨h1, rfl, hf2⟩
    have hk : ¬ k < B.length := by
      intro hk
      rw [drop_gb hk] at h1
      exact h1 rfl
    rw [List.drop_eq_nil_of_le (by omega)]
    try simp (maxDischargeDepth := 8) [↓sC, sB, sM, oneM, flagM]
    exact hf2
end Go.Proofs.Ytieejbkbdfccdaa
