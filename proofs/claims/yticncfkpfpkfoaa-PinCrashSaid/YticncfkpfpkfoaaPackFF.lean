/- The document's numbers as bytes: what its functions compute. -/
import Derived.Test.YticncfkpfpkfoaaSim
import Derived.Test.YticncfkpfpkfoaaPackR2
import Derived.Test.YticncfkpfpkfoaaWRef02
import Derived.Test.YticncfkpfpkfoaaPackRd
set_option linter.unusedVariables false
set_option linter.unusedSimpArgs false
namespace Go.Proofs.Yticncfkpfpkfoaa
open Go

theorem pRemU {t : TypeId} {lit : Bool} {w : World} {a k : Nat} {k' : Int} (hk : k' = (k : Int)) (h0 : 0 < k) : pBin P .rem t lit (u64 a) (.int .u64 k') w = some (u64 (a % k), w) := by
  subst hk
  rw [pBin_rem (by omega)]
  congr 3
theorem pQuoU {t : TypeId} {lit : Bool} {w : World} {a k : Nat} {k' : Int} (hk : k' = (k : Int)) (h0 : 0 < k) (ha : a < 2 * H63) : pBin P .quo t lit (u64 a) (.int .u64 k') w = some (u64 (a / k), w) := by
  subst hk
  rw [pBin_quo (by omega)]
  congr 3
  have : ((a : Int).tdiv (k : Int)) = ((a / k : Nat) : Int) := rfl
  rw [this]
  exact wrapu (Nat.lt_of_le_of_lt (Nat.div_le_self _ _) ha)
theorem pMulU {t : TypeId} {lit : Bool} {w : World} {a k : Nat} {k' : Int} (hk : k' = (k : Int)) (h : a * k < 2 * H63) : pBin P .mul t lit (u64 a) (.int .u64 k') w = some (u64 (a * k), w) := by
  subst hk
  rw [pBin_mul]
  congr 3
  have : (a : Int) * (k : Int) = ((a * k : Nat) : Int) := by push_cast; rfl
  rw [this]
  exact wrapu h
theorem pAddU {t : TypeId} {lit : Bool} {w : World} {a k : Nat} {k' : Int} (hk : k' = (k : Int)) (h : a + k < 2 * H63) : pBin P .add t lit (u64 a) (.int .u64 k') w = some (u64 (a + k), w) := by
  subst hk
  rw [pBin_add]
  congr 3
  exact wrapu h
theorem pSubU {t : TypeId} {lit : Bool} {w : World} {a k : Nat} {k' : Int} (hk : k' = (k : Int)) (h : k ≤ a) (ha : a < 2 * H63) : pBin P .sub t lit (u64 a) (.int .u64 k') w = some (u64 (a - k), w) := by
  subst hk
  rw [pBin_sub]
  congr 3
  have : (a : Int) - (k : Int) = ((a - k : Nat) : Int) := by omega
  rw [this]
  exact wrapu (by omega)
theorem pkown_nw {w : World} {base e size : Nat} {l : List Value} {n : Nat} (hb : base ≤ sz w) (hl : l.length = n * size) (hn : n ≤ maxLen) : (nw w l e).ownsRow base e size (sl (sz w) 0 n n) n l := by
  refine ⟨hl, .inr ⟨sz w, n, l.toArray, rfl, hb, ?_, Nat.le_refl _, hn, by simpa using hl, by simp [← hl]⟩⟩
  unfold nw sz
  simp
/-- Bytes that were just made, apart from all that was. -/
def NewB (w : World) (v : Value) (l : List UInt8) (w' : World) : Prop := w'.ownsRow (sz w) 5 1 v l.length (bs l) ∧ Fr [] w w'
theorem bsl40_one {w : World} {x : UInt8} : pBuildSlice P 22 1 [(0, bv x)] w = some (sl (sz w) 0 1 1, nw w [bv x] 5) := by
  rw [bsl22 (by omega) (by simp)]; simp [splice]
theorem digits_le {n : Nat} (h : n < 2 * H63) : (digits n).length ≤ 10 := by
  have e : (128 : Nat) ^ (9 + 1) = 1180591620717411303424 := by decide
  refine digits_len 9 n ?_
  rw [e]
  unfold H63 at h
  omega
theorem fdigits_spec : ∀ (n : Nat), n < 2 * H63 → ∀ {w : World}, Ret P 93 #[u64 n] w fun v w' => NewB w v (digits n) w' := by
  intro n
  induction n using Nat.strongRecOn with
  | _ n ih =>
    intro hn w
    refine F93ok ?_
    unfold F93
    obtain ⟨x, hx⟩ : ∃ x, x = UInt8.ofNat n := ⟨_, rfl⟩
    have hw8 : IntKind.u8.wrap (n : Int) = (x.toNat : Int) := by rw [hx]; exact wrap8_mod n
    by_cases h : n < 128
    · rw [digits_lt h, ← hx]
      have hi : (n : Int) < 128 := by omega
      try simp (maxDischargeDepth := 8) [↓sC, sB, sM, h, hi, hw8]
      have := pkown_nw (w := w) (base := sz w) (e := 5) (size := 1) (l := [bv x]) (n := 1) (Nat.le_refl _) rfl (by unfold maxLen; omega)
      exact ⟨this, (Fr.refl [] w).nw _ _⟩
    · rw [digits_ge h]
      have hi : ¬ (n : Int) < 128 := by omega
      obtain ⟨y, hy⟩ : ∃ y, y = UInt8.ofNat (n % 128 + 128) := ⟨_, rfl⟩
      obtain ⟨z, hz⟩ : ∃ z, z = UInt8.ofNat (n % 128) := ⟨_, rfl⟩
      rw [← hy]
      have hrem : ∀ w, pBin P .rem 132 true (u64 n) (Value.int .u64 128) w = some (u64 (n % 128), w) := fun w => pRemU (k := 128) rfl (by omega)
      have hquo : ∀ w, pBin P .quo 132 true (u64 n) (Value.int .u64 128) w = some (u64 (n / 128), w) := fun w => pQuoU (k := 128) rfl (by omega) hn
      have hcv : ∀ w, pConv P 132 5 (u64 (n % 128)) w = some (bv z, w) := fun w => by
        rw [pConv_int tyOk132 intK5, wrap8_mod, hz]
      have hadd : ∀ w, pBin P .add 5 true (bv z) (Value.int .u8 128) w = some (bv y, w) := fun w => by
        rw [pBin_add]
        congr 3
        have e1 : (z.toNat : Int) + 128 = ((n % 128 + 128 : Nat) : Int) := by rw [hz, UInt8.toNat_ofNat']; omega
        rw [e1, wrap8_mod, hy]
      obtain ⟨q, hq⟩ : ∃ q, q = n / 128 := ⟨_, rfl⟩
      rw [← hq] at hquo ⊢
      obtain ⟨r, hr⟩ : ∃ r, r = n % 128 := ⟨_, rfl⟩
      rw [← hr] at hrem hcv
      try simp (maxDischargeDepth := 8) [↓sC, sB, sM, h, hi, hw8, hrem, hquo, hcv, hadd, bsl40_one]
      have own1 : (nw w [bv y] 5).ownsRow (sz w) 5 1 (sl (sz w) 0 1 1) 1 [bv y] := pkown_nw (Nat.le_refl _) rfl (by unfold maxLen; omega)
      have hql : q < n := by omega
      refine (ih q hql (by omega)).call ?_
      rintro v2 w2 ⟨own2, hf2⟩
      have hd10 := digits_le (n := q) (by omega)
      obtain ⟨v', w3, hrun, hown', hg, _⟩ := append_own (P := P) (t := 22) (ty := 22) (sz w) sliceE22 hasZero5 cellsOf5 (by rw [zeroL5]; rfl) (by omega) (own_fr own1 hf2 (by simp)) (by have := hf2.size; rw [sz_nw] at this; omega) (own_rd own2) (by simp) bs_one
        (by unfold maxLen; omega) (by rw [bytesOf5]; omega)
      try simp (maxDischargeDepth := 8) [↓sC, sB, sM, hrun]
      refine ⟨?_, ?_⟩
      · have e : [bv y] ++ bs (digits q) = bs (y :: digits q) := rfl
        rw [e] at hown'
        have e2 : 1 + (digits q).length = (y :: digits q).length := by simp; omega
        rw [e2] at hown'
        exact hown'
      · exact (((Fr.refl [] w).nw [bv y] 5).trans0 hf2).trans (Fr.of_grown hg) (fun k hk => .inr (by simp [Value.ownBlock] at hk; omega))

theorem fzig_spec {w : World} {n : Int} (h0 : -9223372036854775808 ≤ n) (h1 : n < 9223372036854775808) : Ret P 94 #[i64 n] w fun v w' => v = u64 (zig n) ∧ Fr [] w w' := by
  refine F94ok ?_
  unfold F94
  by_cases hn : n < 0
  · have e1 : IntKind.i64.wrap (n + 1) = n + 1 := wrap64 (by omega) (by omega)
    have e2 : IntKind.i64.wrap (0 - (n + 1)) = 0 - (n + 1) := wrap64 (by omega) (by omega)
    obtain ⟨m, hm⟩ : ∃ m : Nat, 0 - (n + 1) = (m : Int) := ⟨(-(n + 1)).toNat, by omega⟩
    have hneg : ∀ w, pUn P .neg (i64 (n + 1)) w = some (i64 m, w) := fun w => by rw [pUn_neg, e2, hm]
    have hcv : ∀ w, pConv P 2 132 (i64 m) w = some (u64 m, w) := fun w => by rw [pConv_int tyOk2 intK132, wrapu (by unfold H63; omega)]
    have hmu : ∀ w, pBin P .mul 132 true (u64 m) (.int .u64 2) w = some (u64 (m * 2), w) := fun w => pMulU (k := 2) rfl (by unfold H63; omega)
    obtain ⟨m2, hm2⟩ : ∃ m2, m2 = m * 2 := ⟨_, rfl⟩
    rw [← hm2] at hmu
    have had : ∀ w, pBin P .add 132 true (u64 m2) (.int .u64 1) w = some (u64 (m2 + 1), w) := fun w => pAddU (k := 1) rfl (by unfold H63; omega)
    have hz : zig n = m2 + 1 := by unfold zig; rw [if_pos hn]; omega
    rw [hz]
    obtain ⟨m3, hm3⟩ : ∃ m3, m3 = m2 + 1 := ⟨_, rfl⟩
    rw [← hm3] at had ⊢
    obtain ⟨s, hs⟩ : ∃ s, s = n + 1 := ⟨_, rfl⟩
    have e1 : IntKind.i64.wrap (n + 1) = s := e1.trans hs.symm
    rw [← hs] at hneg
    try simp (maxDischargeDepth := 8) [↓sC, sB, sM, hn, e1, hneg, hcv, hmu, had]
  · obtain ⟨m, rfl⟩ : ∃ m : Nat, n = (m : Int) := ⟨n.toNat, by omega⟩
    have hcv : ∀ w, pConv P 2 132 (i64 m) w = some (u64 m, w) := fun w => by rw [pConv_int tyOk2 intK132, wrapu (by unfold H63; omega)]
    have hmu : ∀ w, pBin P .mul 132 true (u64 m) (.int .u64 2) w = some (u64 (m * 2), w) := fun w => pMulU (k := 2) rfl (by unfold H63; omega)
    have hz : zig (m : Int) = m * 2 := by unfold zig; rw [if_neg hn]; omega
    rw [hz]
    obtain ⟨m2, hm2⟩ : ∃ m2, m2 = m * 2 := ⟨_, rfl⟩
    rw [← hm2] at hmu ⊢
    try simp (maxDischargeDepth := 8) [↓sC, sB, sM, hn, hcv, hmu]
theorem fzag_spec {w : World} {n : Nat} (hn : n < 2 * H63) : Ret P 92 #[u64 n] w fun v w' => v = i64 (zag n) ∧ Fr [] w w' := by
  refine F92ok ?_
  unfold F92
  have hH : 2 * H63 = 18446744073709551616 := by decide
  have hrem : ∀ w, pBin P .rem 132 true (u64 n) (Value.int .u64 2) w = some (u64 (n % 2), w) := fun w => pRemU (k := 2) rfl (by omega)
  have hquo : ∀ w, pBin P .quo 132 true (u64 n) (Value.int .u64 2) w = some (u64 (n / 2), w) := fun w => pQuoU (k := 2) rfl (by omega) hn
  have hcv : ∀ w, pConv P 132 2 (u64 (n / 2)) w = some (i64 (n / 2 : Nat), w) := fun w => by rw [pConv_int tyOk132 intK2, wrap64 (by omega) (by omega)]
  unfold zag
  by_cases hp : n % 2 = 1
  · rw [if_pos hp]
    obtain ⟨q, hq⟩ : ∃ q, q = n / 2 := ⟨_, rfl⟩
    rw [← hq] at hquo hcv ⊢
    have hneg : ∀ w, pUn P .neg (i64 (q : Nat)) w = some (i64 (-(q : Int)), w) := fun w => by rw [pUn_neg, wrap64 (by omega) (by omega)]; congr 3; omega
    obtain ⟨s, hs⟩ : ∃ s : Int, s = -(q : Int) := ⟨_, rfl⟩
    rw [← hs] at hneg ⊢
    have hw : IntKind.i64.wrap (s - 1) = s - 1 := wrap64 (by omega) (by omega)
    try simp (maxDischargeDepth := 8) [↓sC, sB, sM, hrem, hp, hquo, hcv, hneg, hw]
  · rw [if_neg hp]
    obtain ⟨q, hq⟩ : ∃ q, q = n / 2 := ⟨_, rfl⟩
    rw [← hq] at hquo hcv ⊢
    have hp2 : n % 2 = 0 := by omega
    try simp (maxDischargeDepth := 8) [↓sC, sB, sM, hrem, hp2, hquo, hcv]

def PlI (w : World) (m : Nat) (k : Nat) (j : Nat) (e : Env) (w' : World) : Prop :=
  ∃ s : Int, j ≤ 8 ∧ s = (j : Int) - 1 ∧ mm w' (sz w) = bs (zb j ++ (placeB k).drop j) ∧ fz w' (sz w) = false ∧ w'.ownsRow (sz w) 5 1 (sl (sz w) 0 8 8) 8 (bs (zb j ++ (placeB k).drop j)) ∧ Fr [] w w' ∧
    e 0 = u64 (k / 256 ^ (8 - j)) ∧ e 3 = sl (sz w) 0 8 8 ∧ e 4 = i64 s
theorem placeB_set {k j : Nat} (h : j < 8) : (zb (j + 1) ++ (placeB k).drop (j + 1)).set j (UInt8.ofNat (k / 256 ^ (8 - (j + 1)))) = zb j ++ (placeB k).drop j := by
  have : j = 0 ∨ j = 1 ∨ j = 2 ∨ j = 3 ∨ j = 4 ∨ j = 5 ∨ j = 6 ∨ j = 7 := by omega
  rcases this with rfl | rfl | rfl | rfl | rfl | rfl | rfl | rfl <;> simp [placeB, zb, List.replicate]
theorem own_set {w : World} {base e size : Nat} {b n c : Nat} {xs : List Value} (h : w.ownsRow base e size (sl b 0 n c) n xs) (hnc : n = c) (hpos : 0 < n) {i : Nat} {x : Value} (hi : i < xs.length) : mm w b = xs ∧ fz w b = false ∧ (wr w b (xs.set i x)).ownsRow base e size (sl b 0 n c) n (xs.set i x) := by
  obtain ⟨hl, h | ⟨g, cap, cur, hv, hb, hg, hnc2, hcm, hcs, ht⟩⟩ := h
  · obtain ⟨h, h0⟩ := h; simp at h
  · simp only [Value.slice.injEq, Option.some.injEq, Addr.mk.injEq] at hv
    obtain ⟨⟨rfl, _, _⟩, _, rfl⟩ := hv
    subst hnc
    have hcur : cur.toList = xs := by rw [← ht, List.take_of_length_le (by simp [hcs])]
    have hm : mm w b = xs := by unfold mm; rw [hg]; exact hcur
    refine ⟨hm, by unfold fz; rw [hg]; simp, by simpa using hl, .inr ⟨b, n, (xs.set i x).toArray, rfl, hb, ?_, Nat.le_refl _, hcm, by simp [hl], List.take_of_length_le (by simp [hl])⟩⟩
    rw [heap_wr, if_pos rfl, hg]
    rfl
theorem fplace_spec {w : World} {k : Nat} (hk : k < 2 * H63) : Ret P 95 #[u64 k] w fun v w' => NewB w v (placeB k) w' := by
  refine F95ok ?_
  unfold F95
  have hmk : ∀ w, pMake P 22 (Value.int .i64 8) (Value.int .i64 8) w = some (sl (sz w) 0 8 8, nw w (bs (zb 8)) 5) := fun w => by
    have := pMake_eq (P := P) (t := 22) (w := w) (n := 8) sliceE22 hasZero5 tyOk5 (by rw [zeroL5, cellsOf5]; rfl) (by rw [bytesOf5]; omega) (by omega)
    rw [zeroL5] at this
    exact this
  try simp (maxDischargeDepth := 8) [↓sC, sB, sM, hmk]
  have ho : (nw w (bs (zb 8)) 5).ownsRow (sz w) 5 1 (sl (sz w) 0 8 8) 8 (bs (zb 8)) := pkown_nw (Nat.le_refl _) rfl (by unfold maxLen; omega)
  refine loopE_of (PlI w 8 k) 8 ⟨7, by omega, by omega, by simp [sM, placeB], by simp [sM], by simpa [placeB] using ho, (Fr.refl [] w).nw _ _, by simp [put_get, argE_get], by simp [put_get], by simp [put_get]⟩ ?_
  rintro j e w1 ⟨s, hj, hs, hm, hz, hown, hf, e0, e3, e4⟩
  unfold F95B0
  cases j with
  | zero =>
    have hge : ¬ (0 : Int) ≤ s := by omega
    try simp (maxDischargeDepth := 8) [↓sC, sB, sM, e3, e4, hge]
    have e8 : (placeB k).length = 8 := rfl
    have : zb 0 ++ (placeB k).drop 0 = placeB k := rfl
    rw [this] at hown
    exact ⟨hown, hf⟩
  | succ j =>
    have hge : (0 : Int) ≤ s := by omega
    have hs8 : s < 8 := by omega
    have hsn : s.toNat = j := by omega
    obtain ⟨q, hq⟩ : ∃ q, q = k / 256 ^ (8 - (j + 1)) := ⟨_, rfl⟩
    have hqk : q ≤ k := by rw [hq]; exact Nat.div_le_self _ _
    rw [← hq] at e0
    obtain ⟨x, hx⟩ : ∃ x, x = UInt8.ofNat q := ⟨_, rfl⟩
    have hrem : ∀ w, pBin P .rem 132 true (u64 q) (Value.int .u64 256) w = some (u64 (q % 256), w) := fun w => pRemU (k := 256) rfl (by omega)
    have hquo : ∀ w, pBin P .quo 132 true (u64 q) (Value.int .u64 256) w = some (u64 (q / 256), w) := fun w => pQuoU (k := 256) rfl (by omega) (by omega)
    have hcv : ∀ w, pConv P 132 5 (u64 (q % 256)) w = some (bv x, w) := fun w => by
      rw [pConv_int tyOk132 intK5, wrap8_mod, hx]
      have : UInt8.ofNat (q % 256) = UInt8.ofNat q := by
        apply UInt8.toNat_inj.1
        simp [UInt8.toNat_ofNat']
      rw [this]
    have hwr : IntKind.i64.wrap (s - 1) = s - 1 := wrap64 (by omega) (by omega)
    obtain ⟨r, hr⟩ : ∃ r, r = q % 256 := ⟨_, rfl⟩
    rw [← hr] at hrem hcv
    obtain ⟨q2, hq2⟩ : ∃ q2, q2 = q / 256 := ⟨_, rfl⟩
    rw [← hq2] at hquo
    have hl8 : (bs (zb (j + 1) ++ (placeB k).drop (j + 1))).length = 8 := by
      have : (placeB k).length = 8 := rfl
      simp [this]; omega
    obtain ⟨_, _, hown2⟩ := own_set hown rfl (by omega) (i := j) (x := bv x) (by rw [hl8]; omega)
    have hset : (bs (zb (j + 1) ++ (placeB k).drop (j + 1))).set j (bv x) = bs (zb j ++ (placeB k).drop j) := by
      rw [bs_set, hx, hq, placeB_set (by omega)]
    rw [hset] at hown2
    have hj8 : j < 8 := by omega
    have hsidx : ∀ w, pIndexAddr P 22 (sl (sz w1) 0 8 8) (i64 s) w = some (pt (sz w1) j, w) := fun w => by
      have := ia22 (w := w) (b := sz w1) (o := 0) (n := 8) (c := 8) (k := .i64) (j := s) hge (by omega)
      rw [this, hsn]; simp
    have hsidx : ∀ w', pIndexAddr P 22 (sl (sz w) 0 8 8) (i64 s) w' = some (pt (sz w) j, w') := fun w' => by
      have := ia22 (w := w') (b := sz w) (o := 0) (n := 8) (c := 8) (k := .i64) (j := s) hge (by omega)
      rw [this, hsn]; simp
    generalize hL : bs (zb (j + 1) ++ (placeB k).drop (j + 1)) = L at *
    try simp (maxDischargeDepth := 8) [↓sC, sB, sM, e0, e3, e4, hge, hrem, hcv, hsidx, hz, hm, hl8, hj8, hset, hquo, hwr]
    refine ⟨j, by omega, s - 1, by omega, by omega, mm_wr_same hz _, by rw [fz_wr, hz], hown2, hf.wr (.inr (Nat.le_refl _)) _, ?_, by simp [put_get, e3], by simp [put_get]⟩
    have e1 : 256 ^ (8 - j) = 256 ^ (8 - (j + 1)) * 256 := by rw [← Nat.pow_succ]; congr 1; omega
    simp only [put_get]
    simp [hq2, hq, e1, Nat.div_div_eq_div_mul]

/-- Is there a number at a place? -/
def isPlace (k : Nat) : Bool := decide (key (backB k) = k)
theorem fnumber_spec {w : World} {k : Nat} (hk : k < 2 * H63) : Ret P 90 #[u64 k] w fun v w' => v = .bool (isPlace k) ∧ Fr [] w w' := by
  refine F90ok ?_
  unfold F90
  have hH : H63 = 9223372036854775808 := rfl
  have hI : INF = 9218868437227405312 := rfl
  have hN : NAN = 9221120237041090561 := rfl
  by_cases hlo : k < 9223372036854775808
  · have c1 : ((9223372036854775808 : Int) ≤ (k : Int)) = False := eq_false (by omega)
    have c2 : (9223372036854775808 ≤ k) = False := eq_false (by omega)
    have hs1 : ∀ w, pBin P .sub 132 true (Value.int .u64 9223372036854775808) (Value.int .u64 1) w = some (u64 9223372036854775807, w) := fun w => pSubU (a := 9223372036854775808) (k := 1) rfl (by omega) (by decide)
    have hs2 : ∀ w, pBin P .sub 132 false (u64 9223372036854775807) (u64 k) w = some (u64 (9223372036854775807 - k), w) := fun w => pSubU (a := 9223372036854775807) rfl (by omega) (by decide)
    obtain ⟨d, hd⟩ : ∃ d, d = 9223372036854775807 - k := ⟨_, rfl⟩
    rw [← hd] at hs2
    have hs1' : ∀ w, pBin P .sub 132 true (Value.int .u64 9223372036854775808) (Value.int .u64 1) w = some (Value.int .u64 9223372036854775807, w) := hs1
    have hs2' : ∀ w, pBin P .sub 132 false (Value.int .u64 9223372036854775807) (u64 k) w = some (u64 d, w) := hs2
    have hle : ∀ w, pBin P .leq 132 false (u64 d) (Value.int .u64 9218868437227405312) w = some (.bool (isPlace k), w) := fun w => by
      rw [pBin_leq]
      congr 3
      unfold isPlace
      rw [decide_eq_decide]
      have hb : backB k = 18446744073709551615 - k := by unfold backB; rw [if_pos (by omega)]
      have hmod : (18446744073709551615 - k) % 9223372036854775808 = d := by omega
      have hn : isN (backB k) = decide (9218868437227405312 < d) := by unfold isN; rw [hb, hI, hH, hmod]
      by_cases hg : 9218868437227405312 < d
      · have h1 : isN (backB k) = true := by rw [hn]; simpa using hg
        have h2 : key (backB k) = NAN + H63 := by unfold key canon; rw [if_pos h1, hN, hH]; decide
        rw [h2]
        constructor
        · intro h; omega
        · intro h; omega
      · have h1 : isN (backB k) = false := by rw [hn]; simpa using hg
        have hc : canon (backB k) = backB k := by unfold canon; rw [if_neg (by rw [h1]; simp)]
        have h2 : key (backB k) = k := by unfold key; rw [hc, hb, if_neg (by omega)]; omega
        constructor
        · intro _; exact h2
        · intro _; omega
    try simp (maxDischargeDepth := 8) [↓sC, sB, sM, c1, c2, hs1', hs2', hle]
  · have c1 : ((9223372036854775808 : Int) ≤ (k : Int)) = True := eq_true (by omega)
    have c2 : (9223372036854775808 ≤ k) = True := eq_true (by omega)
    obtain ⟨d, hd⟩ : ∃ d, d = k - 9223372036854775808 := ⟨_, rfl⟩
    have hs2 : ∀ w, pBin P .sub 132 false (u64 k) (Value.int .u64 9223372036854775808) w = some (u64 d, w) := fun w => by
      rw [hd]; exact pSubU (k := 9223372036854775808) rfl (by omega) hk
    have had : ∀ w, pBin P .add 132 true (Value.int .u64 9218868437227405312) (Value.int .u64 2251799813685249) w = some (Value.int .u64 9221120237041090561, w) := fun w => pAddU (a := 9218868437227405312) (k := 2251799813685249) rfl (by decide)
    have hb : backB k = d := by unfold backB; rw [if_neg (by omega), hH]; omega
    have hmod : d % 9223372036854775808 = d := by omega
    have hn : isN (backB k) = decide (9218868437227405312 < d) := by unfold isN; rw [hb, hI, hH, hmod]
    by_cases hg : 9218868437227405312 < d
    · have h1 : isN (backB k) = true := by rw [hn]; simpa using hg
      have h2 : key (backB k) = NAN + H63 := by unfold key canon; rw [if_pos h1, hN, hH]; decide
      have c3 : ((d : Int) ≤ 9218868437227405312) = False := eq_false (by omega)
      have c4 : (d ≤ 9218868437227405312) = False := eq_false (by omega)
      by_cases he : d = 9221120237041090561
      · have hp : isPlace k = true := by unfold isPlace; rw [h2, hN, hH]; simp; omega
        subst he
        try simp (maxDischargeDepth := 8) [↓sC, sB, sM, c1, c2, hs2, had, c3, c4, hp]
      · have hp : isPlace k = false := by unfold isPlace; rw [h2, hN, hH]; simp; omega
        have c5 : ((d : Int) = 9221120237041090561) = False := eq_false (by omega)
        try simp (maxDischargeDepth := 8) [↓sC, sB, sM, c1, c2, hs2, had, c3, c4, c5, he, hp]
    · have h1 : isN (backB k) = false := by rw [hn]; simpa using hg
      have hc : canon (backB k) = backB k := by unfold canon; rw [if_neg (by rw [h1]; simp)]
      have h2 : key (backB k) = k := by unfold key; rw [hc, hb, if_pos (by omega), hH]; omega
      have hp : isPlace k = true := by unfold isPlace; rw [h2]; simp
      have c3 : ((d : Int) ≤ 9218868437227405312) = True := eq_true (by omega)
      have c4 : (d ≤ 9218868437227405312) = True := eq_true (by omega)
      try simp (maxDischargeDepth := 8) [↓sC, sB, sM, c1, c2, hs2, had, c3, c4, hp]

theorem pkrd_cell {w : World} {v : Value} {B : List UInt8} (h : RdV w v B.length (bs B)) {i : Nat} (hi : i < B.length) : ∃ ab ao ac, v = sl ab ao B.length ac ∧ ao + i < (mm w ab).length ∧ gt (mm w ab) (ao + i) = bv (gb B i) := by
  rcases id h with ⟨_, _, _, h0, _⟩ | ⟨ab, ao, ac, rfl, _⟩
  · omega
  · obtain ⟨h1, h2⟩ := h.cell (j := i) (by simpa using hi)
    exact ⟨ab, ao, ac, rfl, h1, h2.trans (gt_bs hi)⟩

def NuI (w : World) (v : Value) (B : List UInt8) (m : Nat) (e : Env) (w' : World) : Prop :=
  ∃ (i n : Nat), m = B.length - i ∧ i ≤ B.length ∧ i ≤ 9 ∧ n < 128 ^ i ∧ Fr [] w w' ∧ numGo n i (B.drop i) = num B ∧ e 0 = v ∧ e 5 = u64 n ∧ e 6 = u64 (128 ^ i) ∧ e 7 = i64 i

theorem fnum_spec {w : World} {v : Value} {B : List UInt8} (h : RdV w v B.length (bs B)) :
    Ret P 91 #[v] w fun r w' => r = .tuple #[u64 (num B).1, i64 (num B).2.1, i64 (num B).2.2] ∧ Fr [] w w' := by
  refine F91ok ?_
  unfold F91
  obtain ⟨va, vc, hv⟩ := sl_of h
  refine loopE_of (NuI w v B) B.length ⟨0, 0, rfl, by omega, by omega, by omega, Fr.refl _ _, rfl, by simp [put_get, argE_get], by simp [put_get], by simp [put_get], by simp [put_get]⟩ ?_
  rintro m e w1 ⟨i, n, hm, hi, hi9, hn, hf, hnum, e0, e5, e6, e7⟩
  subst hm
  unfold F91B0
  have hlen := h.len
  by_cases hk : i < B.length
  · have hki : (i : Int) < B.length := by omega
    rw [drop_gb hk] at hnum
    obtain ⟨ab, ao, ac, hv2, hc1, hc2⟩ := pkrd_cell (h.fr0 hf) hk
    subst hv2
    generalize gb B i = x at *
    have hx := x.toNat_lt
    have hwi : IntKind.i64.wrap ((i : Int) + 1) = ((i + 1 : Nat) : Int) := wrap64 (by omega) (by omega)
    obtain ⟨i1, hi1⟩ : ∃ i1 : Int, i1 = ((i + 1 : Nat) : Int) := ⟨_, rfl⟩
    rw [← hi1] at hwi
    have hia : ∀ w', pIndexAddr P 22 (sl ab ao B.length ac) (i64 i) w' = some (pt ab (ao + i), w') := fun w' => by
      have := ia22 (w := w') (b := ab) (o := ao) (n := B.length) (c := ac) (k := .i64) (j := (i : Int)) (by omega) (by omega)
      rw [this]; simp
    by_cases hbad : i = 9 ∧ 1 < x.toNat
    · have hz : numGo n i (x :: B.drop (i + 1)) = (0, 10, 1) := by rw [numGo, if_pos hbad]
      have a1 : ((i : Int) = 9) = True := eq_true (by omega)
      have a1' : (i = 9) = True := eq_true hbad.1
      have a2 : (1 < x.toNat) = True := eq_true hbad.2
      have a3 : ((1 : Int) < x.toNat) = True := eq_true (by omega)
      rw [← hnum, hz]
      try simp (maxDischargeDepth := 8) [↓sC, sB, sM, e0, e7, hki, hk, hia, hc1, hc2, a1, a1', a2, a3]
      exact hf
    · have hz0 : numGo n i (x :: B.drop (i + 1)) = if x.toNat < 128 then (if x.toNat = 0 ∧ 0 < i then (0, i + 1, 4) else (n + x.toNat * 128 ^ i, i + 1, 0)) else numGo (n + (x.toNat % 128) * 128 ^ i) (i + 1) (B.drop (i + 1)) := by
        rw [numGo, if_neg hbad]
      have hb9 : 128 ^ i ≤ 128 ^ 9 := Nat.pow_le_pow_right (by omega) hi9
      have hb9' : (128 : Nat) ^ 9 = H63 := by decide
      have hy : x.toNat % 128 * 128 ^ i < 2 * H63 ∧ n + x.toNat % 128 * 128 ^ i < 2 * H63 := by
        by_cases hi9 : i = 9
        · subst hi9
          have hx1 : x.toNat % 128 ≤ 1 := by
            have : ¬ 1 < x.toNat := fun h => hbad ⟨rfl, h⟩
            omega
          have := Nat.mul_le_mul_right (128 ^ 9) hx1
          have hH : 0 < H63 := by decide
          omega
        · have h8 : 128 ^ i ≤ 128 ^ 8 := Nat.pow_le_pow_right (by omega) (by omega)
          have h1 : x.toNat % 128 * 128 ^ i ≤ 127 * 128 ^ 8 := Nat.mul_le_mul (by omega) h8
          have h2 : 127 * 128 ^ 8 + 128 ^ 8 < 2 * H63 := by decide
          omega
      have hrem : ∀ w, pBin P .rem 5 true (bv x) (Value.int .u8 128) w = some (.int .u8 (x.toNat % 128 : Nat), w) := fun w => by rw [pBin_rem (by omega)]; congr 3
      have hcv : ∀ w, pConv P 5 132 (.int .u8 (x.toNat % 128 : Nat)) w = some (u64 (x.toNat % 128), w) := fun w => by
        rw [pConv_int tyOk5 intK132, wrapu (by unfold H63; omega)]
      have hmu : ∀ w, pBin P .mul 132 false (u64 (x.toNat % 128)) (u64 (128 ^ i)) w = some (u64 (x.toNat % 128 * 128 ^ i), w) := fun w => pMulU rfl hy.1
      have had : ∀ w, pBin P .add 132 false (u64 n) (u64 (x.toNat % 128 * 128 ^ i)) w = some (u64 (n + x.toNat % 128 * 128 ^ i), w) := fun w => pAddU rfl hy.2
      obtain ⟨wt, hwt⟩ : ∃ wt : Int, wt = IntKind.u64.wrap (((128 ^ i : Nat) : Int) * 128) := ⟨_, rfl⟩
      have hmw : ∀ w, pBin P .mul 132 true (u64 (128 ^ i)) (Value.int .u64 128) w = some (.int .u64 wt, w) := fun w => by rw [pBin_mul, hwt]
      have hwt2 : i < 9 → wt = ((128 ^ (i + 1) : Nat) : Int) := fun h9 => by
        have h8 : 128 ^ (i + 1) ≤ 128 ^ 9 := Nat.pow_le_pow_right (by omega) (by omega)
        have e1 : ((128 ^ i : Nat) : Int) * 128 = ((128 ^ (i + 1) : Nat) : Int) := by rw [Nat.pow_succ]; push_cast; rfl
        rw [hwt, e1, wrapu (by omega)]
      obtain ⟨n', hn'⟩ : ∃ n', n' = n + (x.toNat % 128) * 128 ^ i := ⟨_, rfl⟩
      rw [← hn'] at had hz0
      generalize x.toNat % 128 * 128 ^ i = y at hmu had
      generalize hp : 128 ^ i = p at *
      obtain ⟨r, hr⟩ : ∃ r, r = x.toNat % 128 := ⟨_, rfl⟩
      have hrr := hr
      rw [← hr] at hrem hcv hmu
      have A : (((i : Int) = 9) = True ∧ (i = 9) = True ∧ (1 < x.toNat) = False ∧ ((1 : Int) < x.toNat) = False) ∨ (((i : Int) = 9) = False ∧ (i = 9) = False ∧ (i = i) ∧ (i = i)) := by
        by_cases h9 : i = 9
        · have h1 : ¬ 1 < x.toNat := fun h => hbad ⟨h9, h⟩
          exact .inl ⟨eq_true (by omega), eq_true h9, eq_false h1, eq_false (by omega)⟩
        · exact .inr ⟨eq_false (by omega), eq_false h9, rfl, rfl⟩
      rcases A with ⟨a1, a2, a3, a4⟩ | ⟨a1, a2, a3, a4⟩
      all_goals
        by_cases hx128 : x.toNat < 128
        · have b1 : ((x.toNat : Int) < 128) = True := eq_true (by omega)
          have b2 : (x.toNat < 128) = True := eq_true hx128
          rw [if_pos hx128] at hz0
          by_cases hzero : x.toNat = 0 ∧ 0 < i
          · rw [if_pos hzero] at hz0
            have c1 : (x = 0) = True := eq_true (UInt8.toNat_inj.1 (by rw [hzero.1]; rfl))
            have c2 : ((0 : Int) < i) = True := eq_true (by omega)
            have c3 : (0 < i) = True := eq_true (by omega)
            rw [← hnum, hz0]
            try simp (maxDischargeDepth := 8) [↓sC, sB, sM, e0, e5, e6, e7, hki, hk, hia, hc1, hc2, a1, a2, a3, a4, b1, b2, c1, c2, c3, hrem, hcv, hmu, had, hmw, hwi]
            exact ⟨by omega, hf⟩
          · rw [if_neg hzero] at hz0
            have hn2 : n + x.toNat * p = n' := by rw [hn', Nat.mod_eq_of_lt hx128]
            rw [hn2] at hz0
            rw [← hnum, hz0]
            by_cases hx0 : x = 0
            · have c1 : (x = 0) = True := eq_true hx0
              have hi0 : i = 0 := by
                rcases Nat.eq_zero_or_pos i with h | h
                · exact h
                · exact absurd ⟨by rw [hx0]; rfl, h⟩ hzero
              have c2 : ((0 : Int) < i) = False := eq_false (by omega)
              have c3 : (0 < i) = False := eq_false (by omega)
              try simp (maxDischargeDepth := 8) [↓sC, sB, sM, e0, e5, e6, e7, hki, hk, hia, hc1, hc2, a1, a2, a3, a4, b1, b2, c1, c2, c3, hrem, hcv, hmu, had, hmw, hwi]
              exact ⟨by omega, hf⟩
            · have c1 : (x = 0) = False := eq_false hx0
              try simp (maxDischargeDepth := 8) [↓sC, sB, sM, e0, e5, e6, e7, hki, hk, hia, hc1, hc2, a1, a2, a3, a4, b1, b2, c1, hrem, hcv, hmu, had, hmw, hwi]
              exact ⟨by omega, hf⟩
        · have b1 : ((x.toNat : Int) < 128) = False := eq_false (by omega)
          have b2 : (x.toNat < 128) = False := eq_false hx128
          rw [if_neg hx128] at hz0
          have hi8 : i < 9 := by
            rcases Nat.lt_or_ge i 9 with h | h
            · exact h
            · exact absurd ⟨by omega, by omega⟩ hbad
          have hn2 : n' < 128 ^ (i + 1) := by
            have h1 : x.toNat % 128 * p ≤ 127 * p := Nat.mul_le_mul_right _ (by omega)
            have h2 : 128 ^ (i + 1) = 128 * p := by rw [Nat.pow_succ, Nat.mul_comm, hp]
            omega
          try simp (maxDischargeDepth := 8) [↓sC, sB, sM, e0, e5, e6, e7, hki, hk, hia, hc1, hc2, a1, a2, a3, a4, b1, b2, hrem, hcv, hmu, had, hmw, hwi]
          refine ⟨B.length - (i + 1), by omega, i + 1, n', rfl, by omega, by omega, hn2, hf, ?_, by simp [put_get, e0], by simp [put_get], by simp [put_get, hwt2 hi8], by simp [put_get, hi1]⟩
          rw [← hnum, hz0]
  · have hki : ¬ (i : Int) < B.length := by omega
    have hie : i = B.length := by omega
    rw [List.drop_eq_nil_of_le (by omega)] at hnum
    simp only [numGo] at hnum
    rw [← hnum]
    subst hv
    try simp (maxDischargeDepth := 8) [↓sC, sB, sM, e0, e7, hki, hk]
    exact ⟨by omega, hf⟩
end Go.Proofs.Yticncfkpfpkfoaa

set_option linter.unusedVariables false
set_option linter.unusedSimpArgs false
namespace Go.Proofs.Yticncfkpfpkfoaa
open Go

def refC (p : PartR) : List Value := [bv p.kind, u64 p.u, i64 p.i, u64 p.k, strB p.s, .bool p.b]
def zR (kind : UInt8) : PartR := ⟨kind, 0, 0, 0, [], false⟩
theorem refC_oneT (p : PartR) : (∀ v, v ∈ refC p → v.oneCell' = true) = True := by
  simp only [eq_iff_iff, iff_true]
  intro v hv
  simp only [refC, List.mem_cons, List.not_mem_nil, or_false] at hv
  rcases hv with rfl | rfl | rfl | rfl | rfl | rfl <;> rfl
def FirstR (w : World) (r : PartP × Nat × Nat) (x : Value) (w' : World) : Prop :=
  ∃ q : PartR, x = .tuple #[.agg (refC q).toArray, i64 r.2.1, i64 r.2.2] ∧ (r.2.2 = 0 → q = plain r.1) ∧ Fr [] w w'

def FpI (w W : World) (v : Value) (B : List UInt8) (kind : UInt8) (m : Nat) (e : Env) (w' : World) : Prop :=
  ∃ (j n : Nat), m = 8 - j ∧ j ≤ 8 ∧ n < 256 ^ j ∧ (placeM 8 0 B).1 = (placeM (8 - j) n (B.drop j)).1 ∧ mm w' (sz w + 1) = refC { zR kind with k := n } ∧ fz w' (sz w + 1) = false ∧ Fr [sz w + 1] W w' ∧
    e 0 = v ∧ e 1 = bv kind ∧ e 6 = pt (sz w) 0 ∧ e 9 = pt (sz w + 1) 0 ∧ e 11 = i64 j

theorem ffirst_spec {w : World} {v : Value} {B : List UInt8} {kind : UInt8} {most : Int} (h : RdV w v B.length (bs B)) (hm : most < 9223372036854775808) (hm0 : -9223372036854775808 ≤ most) :
    Ret P 83 #[v, bv kind, i64 most] w fun x w' => FirstR w (partM kind most B) x w' := by
  refine F83ok ?_
  unfold F83
  obtain ⟨va, vc, hv⟩ := sl_of h
  have hlen := h.len
  obtain ⟨z, hz⟩ : ∃ z : List Value, z = refC (zR 0) := ⟨_, rfl⟩
  have hz' : [Value.int IntKind.u8 0, Value.int IntKind.u64 0, Value.int IntKind.i64 0, Value.int IntKind.u64 0, Value.string ByteArray.empty, Value.bool false] = z := by rw [hz]; rfl
  have hs6 : ∀ p l : List Value, l.length = 6 → p.length = 6 → splice l 0 p = p := fun p l hl hp => splice_full (by rw [hl, hp])
  have hbld : ∀ w, pBuild P 134 [(0, bv kind)] w = some (.agg (refC (zR kind)).toArray, w) := fun w => by
    rw [bf134 (by simp)]; rfl
  have hzl : z.length = 6 := by rw [hz]; rfl
  have hpl : ∀ p, (refC p).length = 6 := fun _ => rfl
  obtain ⟨W, hW⟩ : ∃ W, W = wr (nw (nw w z 134) z 134) (sz w + 1) (refC (zR kind)) := ⟨_, rfl⟩
  have hfW : Fr [] w W := by rw [hW]; exact (((Fr.refl [] w).nw _ _).nw _ _).wr (.inr (by omega)) _
  have hsW : sz W = sz w + 1 + 1 := by rw [hW]; simp [sM]
  have hmW : mm W (sz w + 1) = refC (zR kind) := by rw [hW]; simp [sM]
  have hzW : fz W (sz w + 1) = false := by rw [hW]; simp [sM]
  have hmW0 : mm W (sz w) = z := by rw [hW]; simp [sM]
  have hzW0 : fz W (sz w) = false := by rw [hW]; simp [sM]
  have hrW := h.fr0 hfW
  have n01 : ¬ sz w = sz w + 1 := by omega
  have n10 : ¬ sz w + 1 = sz w := by omega
  have ht6 : ∀ q, List.take 6 (refC q) = refC q := fun q => rfl
  have fin1 : ∀ (q : PartR) (w2 : World), Fr [] W w2 → Fr [] w (wr (wr w2 (sz w + 1) (refC q)) (sz w) (refC q)) := fun q w2 hf => ((hfW.trans0 hf).wr (.inr (by omega)) _).wr (.inr (by omega)) _
  have fin0 : ∀ (q : PartR) (w2 : World), Fr [] W w2 → Fr [] w (wr w2 (sz w) (refC q)) := fun q w2 hf => (hfW.trans0 hf).wr (.inr (by omega)) _
  try simp only [al134, hz']
  try simp (maxDischargeDepth := 8) [↓sC, sB, sM, hbld, hs6, hzl, hpl, refC_oneT, ← hW, ki117, ki105, ki102, ki115, ki98]
  have keep : ∀ {w2 : World}, Fr [] W w2 → mm w2 (sz w + 1) = refC (zR kind) ∧ fz w2 (sz w + 1) = false ∧ mm w2 (sz w) = z ∧ fz w2 (sz w) = false := fun {w2} hf =>
    ⟨by rw [hf.mm (by omega) (by simp), hmW], by rw [hf.fz (by omega) (by simp), hzW], by rw [hf.mm (by omega) (by simp), hmW0], by rw [hf.fz (by omega) (by simp), hzW0]⟩
  obtain ⟨r, hr⟩ : ∃ r, r = partM kind most B := ⟨_, rfl⟩
  have hrd0 : ∀ (x : UInt8) (t : List UInt8), B = x :: t → ∃ ab ao ac, v = sl ab ao B.length ac ∧ ao + 0 < (mm w ab).length ∧ gt (mm w ab) (ao + 0) = bv x ∧ ab < sz w := fun x t hB => by
    have h0 : 0 < B.length := by rw [hB]; simp
    obtain ⟨ab, ao, ac, e1, e2, e3⟩ := pkrd_cell h (i := 0) h0
    have hx : gb B 0 = x := by rw [hB]; rfl
    refine ⟨ab, ao, ac, e1, e2, by rw [← hx]; exact e3, lt_of_mm e2⟩
  rw [← hr]
  by_cases k5 : kind = 98
  · have hpm : r = ({ zP kind with b := (flagM B).1 }, (flagM B).2.1, (flagM B).2.2) := by rw [hr]; unfold partM; rw [if_neg (by rw [k5]; decide), if_neg (by rw [k5]; decide), if_neg (by rw [k5]; decide), if_neg (by rw [k5]; decide), if_pos k5]
    have k3 : ¬ kind = 102 := by rw [k5]; decide
    have k5' : (kind = 98) = True := eq_true k5
    cases B with
    | nil =>
      have hr2 : r.2 = (0, 2) := by rw [hpm]; rfl
      subst hv
      try simp (maxDischargeDepth := 8) [↓sC, sB, sM, k3, k5', ki102, ki98, hmW, hzW, hmW0, hzW0, hpl, hzl, ht6, hs6, refC_oneT]
      exact ⟨zR kind, by rw [hr2]; simp [k5], by rw [hr2]; simp, fin0 _ _ (Fr.refl _ _)⟩
    | cons x t =>
      obtain ⟨ab, ao, ac, e1, e2, e3, e4⟩ := hrd0 x t rfl
      have hlt1 : ((x :: t).length : Int) < 1 ↔ False := by simp; omega
      have hnl : ¬ ((((x :: t).length : Nat) : Int) < 1) := by simp; omega
      obtain ⟨N, hN⟩ : ∃ N, N = (x :: t).length := ⟨_, rfl⟩
      have hN1 : 1 ≤ N := by rw [hN]; simp
      rw [← hN] at e1 h hlen hv hrW
      have c1 : ((N : Int) < 1) = False := eq_false (by omega)
      have c1' : (N < 1) = False := eq_false (by omega)
      have c1'' : (N = 0) = False := eq_false (by omega)
      have n4 : ¬ ab = sz w := by omega
      have n5 : ¬ ab = sz w + 1 := by omega
      have hWa : mm W ab = mm w ab := by rw [hW]; simp [sM, n4, n5]
      have hia : ∀ w', pIndexAddr P 22 (sl ab ao N ac) (Value.int .i64 0) w' = some (pt ab (ao + 0), w') := fun w' => by
        have := ia22 (w := w') (b := ab) (o := ao) (n := N) (c := ac) (k := .i64) (j := 0) (by omega) (by omega)
        simpa using this
      rw [Nat.add_zero] at e2 e3
      have hia' : ∀ w', pIndexAddr P 22 (sl ab ao N ac) (Value.int .i64 0) w' = some (pt ab ao, w') := fun w' => by rw [hia]; rfl
      have hset : (refC (zR kind)).set 5 (.bool (decide (x = 1))) = refC { zR kind with b := decide (x = 1) } := rfl
      obtain ⟨q, hq⟩ : ∃ q : PartR, q = { zR kind with b := decide (x = 1) } := ⟨_, rfl⟩
      rw [← hq] at hset
      subst e1
      by_cases hx : 1 < x.toNat
      · have d1 : (1 < x.toNat) = True := eq_true hx
        have d2 : ((1 : Int) < x.toNat) = True := eq_true (by omega)
        have hr2 : r.2 = (1, 4) := by rw [hpm]; simp [flagM, hx]
        try simp (maxDischargeDepth := 8) [↓sC, sB, sM, k3, k5', ki102, ki98, c1, c1', c1'', hia', e2, e3, hWa, hmW, hzW, hmW0, hzW0, hset, d1, d2, hpl, hzl, ht6, hs6, refC_oneT, n01, n10, n4, n5]
        refine ⟨q, by rw [hr2]; rfl, by rw [hr2]; simp, ?_⟩
        exact fin1 q W (Fr.refl _ _)
      · have d1 : (1 < x.toNat) = False := eq_false hx
        have d2 : ((1 : Int) < x.toNat) = False := eq_false (by omega)
        have hr2 : r.2 = (1, 0) := by rw [hpm]; simp [flagM, hx]
        try simp (maxDischargeDepth := 8) [↓sC, sB, sM, k3, k5', ki102, ki98, c1, c1', c1'', hia', e2, e3, hWa, hmW, hzW, hmW0, hzW0, hset, d1, d2, hpl, hzl, ht6, hs6, refC_oneT, n01, n10, n4, n5]
        refine ⟨q, by rw [hr2]; rfl, fun _ => ?_, fin1 q W (Fr.refl _ _)⟩
        rw [hq, hpm]
        simp [plain, zR, zP, flagM, hx, k5]
  by_cases k3 : kind = 102
  · have hpm : r = ({ zP kind with f := (floatM B).1 }, (floatM B).2.1, (floatM B).2.2) := by rw [hr]; unfold partM; rw [if_neg (by rw [k3]; decide), if_neg (by rw [k3]; decide), if_pos k3]
    have k3' : (kind = 102) = True := eq_true k3
    by_cases hl8 : B.length < 8
    · have d1 : ((B.length : Int) < 8) = True := eq_true (by omega)
      have d2 : (B.length < 8) = True := eq_true hl8
      have hfl : floatM B = (0, B.length, 2) := by unfold floatM; rw [placeM_short 8 0 B hl8]; simp
      have hr2 : r.2 = (B.length, 2) := by rw [hpm, hfl]
      subst hv
      try simp (maxDischargeDepth := 8) [↓sC, sB, sM, k5, k3', ki102, ki98, d1, d2, hmW, hzW, hmW0, hzW0, hpl, hzl, ht6, hs6, refC_oneT]
      exact ⟨zR kind, by rw [hr2]; rfl, by rw [hr2]; simp, fin0 _ _ (Fr.refl _ _)⟩
    · have d1 : ((B.length : Int) < 8) = False := eq_false (by omega)
      have d2 : (B.length < 8) = False := eq_false hl8
      have hp2 := placeM_long 8 0 B (by omega)
      subst hv
      try simp (maxDischargeDepth := 8) [↓sC, sB, sM, k5, k3', ki102, ki98, d1, d2]
      refine loopE_of (FpI w W (.slice va B.length vc) B kind) 8 ⟨0, 0, by omega, by omega, by omega, rfl, hmW, hzW, Fr.refl _ _, by simp [put_get, argE_get], by simp [put_get, argE_get], by simp [put_get], by simp [put_get], by simp [put_get]⟩ ?_
      rintro m e w1 ⟨j, n, hmj, hj, hn, hp1, m1, z1, hf1, e0, e1, e6, e9, e11⟩
      subst hmj
      unfold F83B0
      have h256 : (256 : Nat) ^ 8 = 2 * H63 := by decide
      have f1 : Fr [] w w1 := hfW.trans hf1 (fun k hk => .inr (by simp at hk; omega))
      by_cases hj8 : j < 8
      · have hji : (j : Int) < 8 := by omega
        obtain ⟨ab, ao, ac, hv2, hc1, hc2⟩ := pkrd_cell (h.fr0 f1) (i := j) (by omega)
        simp only [Value.slice.injEq] at hv2
        obtain ⟨rfl, _, rfl⟩ := hv2
        have hd : B.drop j = gb B j :: B.drop (j + 1) := drop_gb (by omega)
        rw [hd] at hp1
        generalize gb B j = x at *
        have hx := x.toNat_lt
        have hle : 256 ^ j ≤ 256 ^ 7 := Nat.pow_le_pow_right (by omega) (by omega)
        have h7 : (256 : Nat) ^ 7 * 256 = 2 * H63 := by decide
        have hn7 : n < 256 ^ 7 := Nat.lt_of_lt_of_le hn hle
        have hia : ∀ w', pIndexAddr P 22 (sl ab ao B.length vc) (i64 j) w' = some (pt ab (ao + j), w') := fun w' => by
          have := ia22 (w := w') (b := ab) (o := ao) (n := B.length) (c := vc) (k := .i64) (j := (j : Int)) (by omega) (by omega)
          rw [this]; simp
        have hmu : ∀ w, pBin P .mul 132 true (u64 n) (Value.int .u64 256) w = some (u64 (n * 256), w) := fun w => pMulU (k := 256) rfl (by omega)
        obtain ⟨n2, hn2⟩ : ∃ n2, n2 = n * 256 := ⟨_, rfl⟩
        have hcv : ∀ w, pConv P 5 132 (bv x) w = some (u64 x.toNat, w) := fun w => by rw [pConv_int tyOk5 intK132, wrapu (by unfold H63; omega)]
        have had : ∀ w, pBin P .add 132 false (u64 n2) (u64 x.toNat) w = some (u64 (n2 + x.toNat), w) := fun w => pAddU rfl (by omega)
        obtain ⟨n3, hn3⟩ : ∃ n3, n3 = n2 + x.toNat := ⟨_, rfl⟩
        rw [← hn2] at hmu
        rw [← hn3] at had
        have hwi : IntKind.i64.wrap ((j : Int) + 1) = ((j + 1 : Nat) : Int) := wrap64 (by omega) (by omega)
        obtain ⟨j1, hj1⟩ : ∃ j1 : Int, j1 = ((j + 1 : Nat) : Int) := ⟨_, rfl⟩
        rw [← hj1] at hwi
        have g3 : gt (refC { zR kind with k := n }) 3 = u64 n := rfl
        have hset : (refC { zR kind with k := n }).set 3 (u64 n3) = refC { zR kind with k := n3 } := rfl
        generalize hL : refC { zR kind with k := n } = L at *
        have hLl : L.length = 6 := by rw [← hL]; rfl
        try simp (maxDischargeDepth := 8) [↓sC, sB, sM, e0, e6, e9, e11, hji, hj8, m1, z1, hia, hc1, hc2, hmu, hcv, had, hwi, g3, hset, hpl, hLl]
        refine ⟨8 - (j + 1), by omega, j + 1, n3, by omega, by omega, ?_, ?_, mm_wr_same (by rw [fz_drew]; exact z1) _, by rw [fz_wr, fz_drew, z1], hf1.drew.wr (.inl (by simp)) _, by simp [put_get, e0], by simp [put_get, e1], by simp [put_get, e6], by simp [put_get, e9], by simp [put_get, hj1]⟩
        · rw [Nat.pow_succ, hn3, hn2]
          generalize 256 ^ j = p at hn
          clear h7 h256 hle hn7 hmu hcv had hia
          omega
        · have e8 : 8 - j = 8 - (j + 1) + 1 := by omega
          rw [hp1, e8, hn3, hn2]
          rfl
      · have hj8' : j = 8 := by omega
        subst hj8'
        have hfl : (placeM 8 0 B).1 = n := by rw [hp1]; rfl
        have hnn : n < 2 * H63 := by omega
        have g3 : gt (refC { zR kind with k := n }) 3 = u64 n := rfl
        obtain ⟨q, hq⟩ : ∃ q : PartR, q = { zR kind with k := n } := ⟨_, rfl⟩
        rw [← hq] at m1 g3
        try simp (maxDischargeDepth := 8) [↓sC, sB, sM, e0, e1, e6, e9, e11, m1, g3, hpl]
        refine (fnumber_spec hnn).call ?_
        rintro _ w2 ⟨rfl, hf2⟩
        have hz1 := lt_of_fz z1
        have m2 : mm w2 (sz w + 1) = refC q := by rw [hf2.mm hz1 (by simp), m1]
        have z2 : fz w2 (sz w + 1) = false := by rw [hf2.fz hz1 (by simp), z1]
        have m20 : mm w2 (sz w) = z := by rw [hf2.mm (by omega) (by simp), hf1.mm (by omega) (by simp), hmW0]
        have z20 : fz w2 (sz w) = false := by rw [hf2.fz (by omega) (by simp), hf1.fz (by omega) (by simp), hzW0]
        have f2 := f1.trans0 hf2
        have hnum : placeM 8 0 B = (n, 8, 0) := by rw [Prod.ext_iff]; exact ⟨hfl, hp2⟩
        cases hpl2 : isPlace n with
        | true =>
          have hk : key (backB n) = n := by simpa [isPlace] using hpl2
          have hfl : floatM B = (backB n, 8, 0) := by unfold floatM; rw [hnum]; simp [hk]
          have hr2 : r.2 = (8, 0) := by rw [hpm, hfl]
          try simp (maxDischargeDepth := 8) [↓sC, sB, sM, e6, e9, m2, z2, m20, z20, hpl, hzl, ht6, hs6, refC_oneT]
          refine ⟨q, by rw [hr2]; rfl, fun _ => ?_, f2.wr (.inr (Nat.le_refl _)) _⟩
          rw [hq, hpm, hfl]
          simp [plain, zR, zP, k3, hk]
        | false =>
          have hk : ¬ key (backB n) = n := by simpa [isPlace] using hpl2
          have hfl : floatM B = (0, 8, 4) := by unfold floatM; rw [hnum]; simp [hk]
          have hr2 : r.2 = (8, 4) := by rw [hpm, hfl]
          try simp (maxDischargeDepth := 8) [↓sC, sB, sM, e6, e9, m2, z2, m20, z20, hpl, hzl, ht6, hs6, refC_oneT]
          exact ⟨q, by rw [hr2]; rfl, by rw [hr2]; simp, f2.wr (.inr (Nat.le_refl _)) _⟩
  by_cases k1 : kind = 117
  · have hpm : r = ({ zP kind with u := (num B).1 }, (num B).2.1, (num B).2.2) := by rw [hr]; unfold partM; rw [if_pos k1]
    have k1' : (kind = 117) = True := eq_true k1
    try simp (maxDischargeDepth := 8) [↓sC, sB, sM, k5, k3, k1', ki117, ki105, ki115, ki102, ki98]
    refine (fnum_spec hrW).call ?_
    rintro _ w2 ⟨rfl, hf⟩
    obtain ⟨q1, q2, q3, q4⟩ := keep hf
    by_cases hc : (num B).2.2 = 0
    · have hset : (refC (zR kind)).set 1 (u64 (num B).1) = refC { zR kind with u := (num B).1 } := rfl
      obtain ⟨q, hq⟩ : ∃ q : PartR, q = { zR kind with u := (num B).1 } := ⟨_, rfl⟩
      rw [← hq] at hset
      try simp (maxDischargeDepth := 8) [↓sC, sB, sM, hc, k1', ki117, q1, q2, q3, q4, hset, hpl, hzl, ht6, hs6, refC_oneT, n01, n10]
      refine ⟨q, by rw [hpm]; simp [hc], fun _ => ?_, fin1 q w2 hf⟩
      rw [hq, hpm]
      simp [plain, zR, zP, k1]
    · try simp (maxDischargeDepth := 8) [↓sC, sB, sM, hc, q1, q2, q3, q4, hpl, hzl, ht6, hs6, refC_oneT, n01, n10]
      exact ⟨zR kind, by rw [hpm], by rw [hpm]; exact fun h => absurd h hc, fin0 _ w2 hf⟩
  by_cases k2 : kind = 105
  · have hpm : r = ({ zP kind with i := zag (num B).1 }, (num B).2.1, (num B).2.2) := by rw [hr]; unfold partM; rw [if_neg k1, if_pos k2]
    have k2' : (kind = 105) = True := eq_true k2
    try simp (maxDischargeDepth := 8) [↓sC, sB, sM, k5, k3, k1, k2', ki117, ki105, ki115, ki102, ki98]
    refine (fnum_spec hrW).call ?_
    rintro _ w2 ⟨rfl, hf⟩
    obtain ⟨q1, q2, q3, q4⟩ := keep hf
    by_cases hc : (num B).2.2 = 0
    · have hnl := num_lt hc
      try simp (maxDischargeDepth := 8) [↓sC, sB, sM, hc, k1, k2', ki117, ki105]
      refine (fzag_spec hnl).call ?_
      rintro _ w3 ⟨rfl, hf3⟩
      have hf' := hf.trans0 hf3
      obtain ⟨q1, q2, q3, q4⟩ := keep hf'
      have hset : (refC (zR kind)).set 2 (i64 (zag (num B).1)) = refC { zR kind with i := zag (num B).1 } := rfl
      obtain ⟨q, hq⟩ : ∃ q : PartR, q = { zR kind with i := zag (num B).1 } := ⟨_, rfl⟩
      rw [← hq] at hset
      try simp (maxDischargeDepth := 8) [↓sC, sB, sM, hc, k1, k2', ki117, ki105, q1, q2, q3, q4, hset, hpl, hzl, ht6, hs6, refC_oneT, n01, n10]
      refine ⟨q, by rw [hpm]; simp [hc], fun _ => ?_, fin1 q w3 hf'⟩
      rw [hq, hpm]
      simp [plain, zR, zP, k2]
    · try simp (maxDischargeDepth := 8) [↓sC, sB, sM, hc, q1, q2, q3, q4, hpl, hzl, ht6, hs6, refC_oneT, n01, n10]
      exact ⟨zR kind, by rw [hpm], by rw [hpm]; exact fun h => absurd h hc, fin0 _ w2 hf⟩
  by_cases k4 : kind = 115
  · have hpm : r = ({ zP kind with s := (strM most B).1 }, (strM most B).2.1, (strM most B).2.2) := by rw [hr]; unfold partM; rw [if_neg k1, if_neg k2, if_neg k3, if_pos k4]
    have k4' : (kind = 115) = True := eq_true k4
    try simp (maxDischargeDepth := 8) [↓sC, sB, sM, k5, k3, k1, k2, k4', ki117, ki105, ki115, ki102, ki98]
    refine (fnum_spec hrW).call ?_
    rintro _ w2 ⟨rfl, hf⟩
    obtain ⟨q1, q2, q3, q4⟩ := keep hf
    by_cases hc : (num B).2.2 = 0
    · have hnl := num_lt hc
      have hnle := num_le B
      have hnpos := num_pos hc
      have hst : strM most B = if (max most 0).toNat < (num B).1 then ([], (num B).2.1, 3) else if B.length - (num B).2.1 < (num B).1 then ([], (num B).2.1, 2) else ((B.drop (num B).2.1).take (num B).1, (num B).2.1 + (num B).1, 0) := by
        unfold strM; simp [hc]
      rw [hst] at hpm
      generalize num B = nn at *
      obtain ⟨n, zz, cc⟩ := nn
      simp only at hc hnl hnle hnpos hpm ⊢
      subst hc
      obtain ⟨mq, hmq⟩ : ∃ mq : Nat, max most 0 = (mq : Int) := ⟨(max most 0).toNat, by omega⟩
      have hmt : (max most 0).toNat = mq := by omega
      rw [hmt] at hpm
      have hwq : IntKind.u64.wrap (mq : Int) = (mq : Int) := wrapu (by unfold H63; omega)
      obtain ⟨d, hd⟩ : ∃ d, d = B.length - zz := ⟨_, rfl⟩
      have hwd0 : IntKind.i64.wrap ((B.length : Int) - zz) = (d : Int) := wrap64 (by omega) (by omega) |>.trans (by omega)
      have hwd : IntKind.u64.wrap (d : Int) = (d : Int) := wrapu (by unfold H63; omega)
      rw [← hd] at hpm
      -- the two ways to say the bound
      have hb : ∀ (G : Prop), (∀ m0 : Int, m0 = (mq : Int) → ((most < 0) = True ∧ m0 = 0 ∨ (most < 0) = False ∧ m0 = most) → G) → G := fun G hG => by
        by_cases hneg : most < 0
        · exact hG 0 (by omega) (.inl ⟨eq_true hneg, rfl⟩)
        · exact hG most (by omega) (.inr ⟨eq_false hneg, rfl⟩)
      refine hb _ fun m0 hm0' hcase => ?_
      have hwm : IntKind.u64.wrap m0 = (mq : Int) := by rw [hm0', hwq]
      rcases hcase with ⟨ms, rfl⟩ | ⟨ms, rfl⟩
      all_goals
        by_cases hlong : mq < n
        · rw [if_pos hlong] at hpm
          try simp (maxDischargeDepth := 8) [↓sC, sB, sM, k1, k2, ki117, ki105, ms, hwm, hlong, q1, q2, q3, q4, hpl, hzl, ht6, hs6, refC_oneT, n01, n10]
          exact ⟨zR kind, by rw [hpm]; rfl, by rw [hpm]; simp, fin0 _ w2 hf⟩
        · rw [if_neg hlong] at hpm
          by_cases hshort : d < n
          · rw [if_pos hshort] at hpm
            subst hv
            try simp (maxDischargeDepth := 8) [↓sC, sB, sM, k1, k2, ki117, ki105, ms, hwm, hlong, hwd0, hwd, hshort, q1, q2, q3, q4, hpl, hzl, ht6, hs6, refC_oneT, n01, n10]
            exact ⟨zR kind, by rw [hpm]; rfl, by rw [hpm]; simp, fin0 _ w2 hf⟩
          · rw [if_neg hshort] at hpm
            rcases id (hrW.fr0 hf) with ⟨_, _, _, h0, _⟩ | ⟨ab, ao, ac, hv', hac, _⟩
            · omega
            · have hrd2 := hrW.fr0 hf
              rw [hv'] at hrd2
              have hsub := pkrd_sub hrd2 rfl (lo := zz) (hi := zz + n) (by omega) (by omega)
              have e1 : zz + n - zz = n := by omega
              rw [e1] at hsub
              obtain ⟨S, hS⟩ : ∃ S : Value, S = .slice (some ⟨ab, if ac = zz then ao else ao + zz * 1, none⟩) n (ac - zz) := ⟨_, rfl⟩
              rw [← hS] at hsub
              have hwn : IntKind.i64.wrap (n : Int) = (n : Int) := wrap64 (by omega) (by omega)
              obtain ⟨t, ht⟩ : ∃ t : Int, t = ((zz + n : Nat) : Int) := ⟨_, rfl⟩
              have hws : IntKind.i64.wrap ((zz : Int) + n) = t := wrap64 (by omega) (by omega) |>.trans (by omega)
              have hsl : ∀ w, pSlice P 22 v (some (i64 zz)) (some (i64 t)) none w = some (S, w) := fun w => by
                rw [hv', slB22 (by omega) (by omega) (by omega) hac, hS]
                have e2 : ((zz : Nat) : Int).toNat = zz := by omega
                have e3 : t.toNat = zz + n := by omega
                rw [e2, e3, e1]
              have hcs : pConv P 22 9 S w2 = some (strB ((B.drop zz).take n), w2) := conv_str sliceE22 intK5 und9 hsub
              have hset : (refC (zR kind)).set 4 (strB ((B.drop zz).take n)) = refC { zR kind with s := (B.drop zz).take n } := rfl
              obtain ⟨q, hq⟩ : ∃ q : PartR, q = { zR kind with s := (B.drop zz).take n } := ⟨_, rfl⟩
              rw [← hq] at hset
              have hlv : pBuiltin P .len #[22] 3 [v] w2 = some (i64 B.length, w2) := by rw [hv']; exact len22
              try simp (maxDischargeDepth := 8) [↓sC, sB, sM, k1, k2, ki117, ki105, ms, hwm, hlong, hlv, hwd0, hwd, hshort, hwn, hws, hsl, hcs, hset, q1, q2, q3, q4, hpl, hzl, ht6, hs6, refC_oneT, n01, n10]
              refine ⟨q, by rw [hpm]; simp [ht], fun _ => ?_, fin1 q w2 hf⟩
              rw [hq, hpm]
              simp [plain, zR, zP, k4]
    · try simp (maxDischargeDepth := 8) [↓sC, sB, sM, hc, q1, q2, q3, q4, hpl, hzl, ht6, hs6, refC_oneT, n01, n10]
      have hst : strM most B = ([], (num B).2.1, (num B).2.2) := by unfold strM; simp [hc]
      exact ⟨zR kind, by rw [hpm, hst], by rw [hpm, hst]; exact fun h => absurd h hc, fin0 _ w2 hf⟩
  · have hpm : r = (zP kind, 0, 5) := by rw [hr]; unfold partM; rw [if_neg k1, if_neg k2, if_neg k3, if_neg k4, if_neg k5]
    try simp (maxDischargeDepth := 8) [↓sC, sB, sM, k5, k3, k1, k2, k4, ki117, ki105, ki115, ki102, ki98, hmW, hzW, hmW0, hzW0, hpl, hzl, ht6, hs6, refC_oneT, n01, n10]
    exact ⟨zR kind, by rw [hpm]; rfl, by rw [hpm]; simp, fin0 _ W (Fr.refl _ _)⟩
end Go.Proofs.Yticncfkpfpkfoaa

set_option linter.unusedVariables false
set_option linter.unusedSimpArgs false
namespace Go.Proofs.Yticncfkpfpkfoaa
open Go

theorem conv_bytes {s t e : TypeId} {w : World} {l : List UInt8} (hs : P.underlying s = some .string) (ht : sliceE P t = some e) (he : intK P e = some .u8) (hl : l.length ≤ 1000000000) :
    ∃ v w', pConv P s t (strB l) w = some (v, w') ∧ RdV w' v l.length (bs l) ∧ Fr [] w w' := by
  have hd := sliceE_und ht
  have hu := intK_und he
  have hr := run_bytes_of_string (P := P) w s t e ⟨l.toArray⟩ hs hd hu
  rw [strB_size] at hr
  have hp : pConv P s t (strB l) w = some (.slice (some ⟨w.heap.size, 0, none⟩) l.length (grownCap w l.length 0 e),
      w.drew.alloc (.cells (bytesRow ⟨l.toArray⟩ (grownCap w l.length 0 e)) e ((bytesRow ⟨l.toArray⟩ (grownCap w l.length 0 e)).size, (bytesRow ⟨l.toArray⟩ (grownCap w l.length 0 e)).size + 1))) := by
    unfold pConv runV strB
    rw [hr]
  refine ⟨_, _, hp, ?_, ?_⟩
  · have hcap := grownCap_ge w l.length 0 e
    have hcm : grownCap w l.length 0 e ≤ maxLen := grownCap_le_maxLen w l.length 0 e (by unfold maxLen; omega)
    have hrow : (bytesRow ⟨l.toArray⟩ (grownCap w l.length 0 e)).toList = bs l ++ List.replicate (grownCap w l.length 0 e - l.length) (.int .u8 0) := by
      simp [bytesRow, bs, bv, strB_size]
    have hm : mm (w.drew.alloc (.cells (bytesRow ⟨l.toArray⟩ (grownCap w l.length 0 e)) e ((bytesRow ⟨l.toArray⟩ (grownCap w l.length 0 e)).size, (bytesRow ⟨l.toArray⟩ (grownCap w l.length 0 e)).size + 1))) (sz w) =
        bs l ++ List.replicate (grownCap w l.length 0 e - l.length) (.int .u8 0) := by
      rw [← hrow]
      unfold mm
      have := heap_alloc_new w.drew (.cells (bytesRow ⟨l.toArray⟩ (grownCap w l.length 0 e)) e ((bytesRow ⟨l.toArray⟩ (grownCap w l.length 0 e)).size, (bytesRow ⟨l.toArray⟩ (grownCap w l.length 0 e)).size + 1))
      have h2 : w.drew.heap.size = sz w := rfl
      rw [h2] at this
      rw [this]
    refine .inr ⟨sz w, 0, grownCap w l.length 0 e, rfl, hcap, hcm, ?_, ?_, ?_⟩
    · unfold sz; simp
    · rw [hm]; simp
    · rw [hm]; simp
  · exact ⟨rfl, rfl, by unfold sz; simp, fun b hb _ => heap_alloc_old w.drew _ hb⟩

theorem zig_lt2 {n : Int} (h0 : -9223372036854775808 ≤ n) (h1 : n < 9223372036854775808) : zig n < 2 * H63 := by
  unfold zig H63; split <;> omega
def okR (p : PartR) : Prop := p.u < 2 * H63 ∧ (-9223372036854775808 ≤ p.i ∧ p.i < 9223372036854775808) ∧ p.k < 2 * H63 ∧ p.s.length ≤ 100000000
theorem fone_spec {w : World} {p : PartR} (h : okR p) : Ret P 84 #[.agg (refC p).toArray] w fun v w' => NewB w v (encR p) w' := by
  refine F84ok ?_
  unfold F84
  obtain ⟨hu, hi, hk, hs⟩ := h
  have hpl : (refC p).length = 6 := rfl
  have g0 : gt (refC p) 0 = bv p.kind := rfl
  have g1 : gt (refC p) 1 = u64 p.u := rfl
  have g2 : gt (refC p) 2 = i64 p.i := rfl
  have g3 : gt (refC p) 3 = u64 p.k := rfl
  have g4 : gt (refC p) 4 = strB p.s := rfl
  have g5 : gt (refC p) 5 = .bool p.b := rfl
  have hf0 : Fr [] w (nw w (refC p) 134) := (Fr.refl [] w).nw _ _
  have hm0 : mm (nw w (refC p) 134) (sz w) = refC p := by simp [sM]
  have hs0 : sz w < sz (nw w (refC p) 134) := by simp [sM]
  obtain ⟨W, hW⟩ : ∃ W, W = nw w (refC p) 134 := ⟨_, rfl⟩
  rw [← hW] at hf0 hm0 hs0
  have wide : ∀ {v : Value} {l : List UInt8} {w' : World}, NewB W v l w' → NewB w v l w' := fun h => ⟨own_base h.1 hf0.size, hf0.trans0 h.2⟩
  try simp (maxDischargeDepth := 8) [↓sC, sB, sM, ← hW, hm0, hpl, g0, ki117, ki105, ki102, ki115, ki98]
  by_cases k1 : p.kind = 117
  · have henc : encR p = digits p.u := by unfold encR; rw [if_pos k1]
    rw [henc]
    have k1' : (p.kind = 117) = True := eq_true k1
    try simp (maxDischargeDepth := 8) [↓sC, sB, sM, hm0, hpl, g0, g1, k1']
    refine (fdigits_spec p.u hu).call ?_
    intro v w' hn
    try simp (maxDischargeDepth := 8) [↓sC, sB, sM]
    exact wide hn
  by_cases k2 : p.kind = 105
  · have henc : encR p = digits (zig p.i) := by unfold encR; rw [if_neg k1, if_pos k2]
    rw [henc]
    have k2' : (p.kind = 105) = True := eq_true k2
    try simp (maxDischargeDepth := 8) [↓sC, sB, sM, hm0, hpl, g0, g2, k1, k2', ki117, ki105, ki102, ki115, ki98]
    refine (fzig_spec hi.1 hi.2).call ?_
    rintro _ w1 ⟨rfl, hf1⟩
    refine (fdigits_spec _ (zig_lt2 hi.1 hi.2)).call ?_
    intro v w' hn
    try simp (maxDischargeDepth := 8) [↓sC, sB, sM]
    exact wide ⟨own_base hn.1 hf1.size, hf1.trans0 hn.2⟩
  by_cases k3 : p.kind = 102
  · have henc : encR p = placeB p.k := by unfold encR; rw [if_neg k1, if_neg k2, if_pos k3]
    rw [henc]
    have k3' : (p.kind = 102) = True := eq_true k3
    try simp (maxDischargeDepth := 8) [↓sC, sB, sM, hm0, hpl, g0, g3, k1, k2, k3', ki117, ki105, ki102, ki115, ki98]
    refine (fplace_spec hk).call ?_
    intro v w' hn
    try simp (maxDischargeDepth := 8) [↓sC, sB, sM]
    exact wide hn
  by_cases k4 : p.kind = 115
  · have henc : encR p = digits p.s.length ++ p.s := by unfold encR; rw [if_neg k1, if_neg k2, if_neg k3, if_pos k4]
    rw [henc]
    have k4' : (p.kind = 115) = True := eq_true k4
    have hlen : ∀ w, pBuiltin P .len #[9] 3 [strB p.s] w = some (i64 p.s.length, w) := fun w => len_strB und9
    have hwr : IntKind.u64.wrap (p.s.length : Int) = (p.s.length : Int) := wrapu (by unfold H63; omega)
    have hl10 := digits_le (n := p.s.length) (by unfold H63; omega)
    -- digits and then the text, in either order
    have app : ∀ {w1 w2 : World} {d : Value} {x : Value}, w1.ownsRow (sz W) 5 1 d (digits p.s.length).length (bs (digits p.s.length)) → Fr [] W w1 → Fr [] w1 w2 → RdV w2 x p.s.length (bs p.s) →
        ∃ v' w3, pBuiltin P .append #[22, 22] 22 [d, x] w2 = some (v', w3) ∧ NewB W v' (digits p.s.length ++ p.s) w3 := fun {w1 w2 d x} hd hf hf2 hx => by
      obtain ⟨v', w3, hrun, hown', hg, _⟩ := append_own (P := P) (t := 22) (ty := 22) (sz W) sliceE22 hasZero5 cellsOf5 (by rw [zeroL5]; rfl) (by omega) (own_fr hd hf2 (by simp)) (by have := hf.size; have := hf2.size; omega) hx (by simp) bs_one
        (by unfold maxLen; omega) (by rw [bytesOf5]; omega)
      refine ⟨v', w3, hrun, ?_, (hf.trans0 hf2).trans (Fr.of_grown hg) (fun k hk => .inr (hd.lt k (by simpa using hk)).1)⟩
      rw [bs_append, List.length_append]
      exact hown'
    try simp (maxDischargeDepth := 8) [↓sC, sB, sM, hm0, hpl, g0, k1, k2, k3, k4', ki117, ki105, ki102, ki115, ki98]
    refine drawE_of (fun e w' => NewB w (e 2) (digits p.s.length ++ p.s) w') ?_ ?_
    · intro k kp hk
      have hm0d : mm (drew W) (sz w) = refC p := by rw [mm_drew, hm0]
      have hs0d : sz w < sz (drew W) := by rw [sz_drew]; exact hs0
      try simp (maxDischargeDepth := 8) [↓sC, sB, sM, hm0d, hpl, g4, hlen, hwr]
      constructor
      · refine (fdigits_spec _ (by unfold H63; omega)).call ?_
        rintro d w1 ⟨hd, hf1⟩
        have m1 : mm w1 (sz w) = refC p := by rw [hf1.mm hs0d (by simp), hm0d]
        obtain ⟨x, w2, hc, hx, hf2⟩ := conv_bytes (s := 9) (t := 22) (w := w1) (l := p.s) und9 sliceE22 intK5 (by omega)
        rw [sz_drew] at hd
        obtain ⟨v', w3, hrun, hn⟩ := app hd ((Fr.refl [] W).drew.trans0 hf1) hf2 hx
        try simp (maxDischargeDepth := 8) [↓sC, sB, sM, m1, hpl, g4, hc, hrun]
        exact hk _ _ (by simp only [put_get]; exact wide hn)
      · obtain ⟨x, w1, hc, hx, hf1⟩ := conv_bytes (s := 9) (t := 22) (w := drew W) (l := p.s) und9 sliceE22 intK5 (by omega)
        have m1 : mm w1 (sz w) = refC p := by rw [hf1.mm hs0d (by simp), hm0d]
        try simp (maxDischargeDepth := 8) [↓sC, sB, sM, hc, m1, hpl, g4, hlen, hwr]
        refine (fdigits_spec _ (by unfold H63; omega)).call ?_
        rintro d w2 ⟨hd, hf2⟩
        have hfd : Fr [] W w1 := (Fr.refl [] W).drew.trans0 hf1
        obtain ⟨v', w3, hrun, hn⟩ := app (own_base hd hfd.size) (hfd.trans0 hf2) (Fr.refl [] w2) (hx.fr0 hf2)
        try simp (maxDischargeDepth := 8) [↓sC, sB, sM, hrun]
        exact hk _ _ (by simp only [put_get]; exact wide hn)
    · intro e w' hn
      try simp (maxDischargeDepth := 8) [↓sC, sB, sM]
      exact hn
  by_cases k5 : p.kind = 98
  · have henc : encR p = [if p.b then 1 else 0] := by unfold encR; rw [if_neg k1, if_neg k2, if_neg k3, if_neg k4, if_pos k5]
    rw [henc]
    have k5' : (p.kind = 98) = True := eq_true k5
    have mk : ∀ (x : UInt8) (w2 : World), Fr [] W w2 → NewB w (sl (sz w2) 0 1 1) [x] (nw w2 [bv x] 5) := fun x w2 hf =>
      ⟨pkown_nw (by have := (hf0.trans0 hf).size; omega) rfl (by unfold maxLen; omega), (hf0.trans0 hf).nw _ _⟩
    have b1 : ∀ w, pBuildSlice P 22 1 [(0, Value.int .u8 1)] w = some (sl (sz w) 0 1 1, nw w [bv 1] 5) := fun w => bsl40_one (x := 1)
    have b0 : ∀ w, pBuildSlice P 22 1 [(0, Value.int .u8 0)] w = some (sl (sz w) 0 1 1, nw w [bv 0] 5) := fun w => bsl40_one (x := 0)
    cases hb : p.b with
    | true =>
      rw [hb] at g5
      try simp (maxDischargeDepth := 8) [↓sC, sB, sM, hm0, hpl, g0, g5, k1, k2, k3, k4, k5', ki117, ki105, ki102, ki115, ki98, b1, b0]
      exact mk 1 W (Fr.refl _ _)
    | false =>
      rw [hb] at g5
      try simp (maxDischargeDepth := 8) [↓sC, sB, sM, hm0, hpl, g0, g5, k1, k2, k3, k4, k5', ki117, ki105, ki102, ki115, ki98, b1, b0]
      exact mk 0 W (Fr.refl _ _)
  · have henc : encR p = [] := by unfold encR; rw [if_neg k1, if_neg k2, if_neg k3, if_neg k4, if_neg k5]
    rw [henc]
    have b2 : ∀ w, pBuildSlice P 22 0 [] w = some (sl (sz w) 0 0 0, nw w [] 5) := fun w => by rw [bsl22 (by omega) (by simp)]; simp
    try simp (maxDischargeDepth := 8) [↓sC, sB, sM, hm0, hpl, g0, k1, k2, k3, k4, k5, ki117, ki105, ki102, ki115, ki98, b2]
    exact ⟨pkown_nw (by have := hf0.size; omega) rfl (by unfold maxLen; omega), hf0.nw _ _⟩
end Go.Proofs.Yticncfkpfpkfoaa

set_option linter.unusedVariables false
set_option linter.unusedSimpArgs false
namespace Go.Proofs.Yticncfkpfpkfoaa
open Go

theorem pkpSlice_any {t e : TypeId} {a : Option Addr} {n c : Nat} {lo hi : Option Value} (hs : sliceE P t = some e) (he : tyOk P e = true) (hlo : isB lo = true) (hhi : isB hi = true)
    (h0 : 0 ≤ bLo lo) (h1 : bLo lo ≤ bHi n hi) (h2 : bHi n hi ≤ c) (hnc : n ≤ c) (w : World) :
    pSlice P t (.slice a n c) lo hi none w = some (.slice (if c = (bLo lo).toNat then a else a.map (·.add ((bLo lo).toNat * P.cellsOf e))) ((bHi n hi).toNat - (bLo lo).toNat) (c - (bLo lo).toNat), w) := by
  have hu := sliceE_und hs
  simp only [pSlice, runV, Instr.sliceAt, Sem.run_bind, run_underlying hu, Result.andThen_ok, Instr.slice, run_bounds hlo hhi h0 h1 h2 hnc, run_size he, Sem.run_pure]
theorem sl_lo {w : World} {v : Value} {B : List UInt8} {k : Nat} (h : RdV w v B.length (bs B)) (hk : k ≤ B.length) :
    ∃ S, (∀ w', pSlice P 22 v (some (i64 k)) none none w' = some (S, w')) ∧ RdV w S (B.drop k).length (bs (B.drop k)) := by
  have hl : (B.drop k).length = B.length - k := by simp
  rcases id h with ⟨a, c, rfl, h0, _⟩ | ⟨ab, ao, ac, rfl, hac, _⟩
  · have hk0 : k = 0 := by omega
    subst hk0
    have hB : B = [] := List.eq_nil_of_length_eq_zero h0
    subst hB
    refine ⟨_, fun w' => pkpSlice_any (w := w') (a := a) (n := 0) (c := c) (lo := some (i64 (0 : Nat))) (hi := none) sliceE22 tyOk5 rfl rfl (by simp [bLo]) (by simp [bLo, bHi]) (by simp [bHi]) (by omega), ?_⟩
    exact .inl ⟨_, _, rfl, by simp, by simp [bs]⟩
  · have hsub := pkrd_sub h rfl (lo := k) (hi := B.length) hk (Nat.le_refl _)
    have e1 : (B.drop k).take (B.length - k) = B.drop k := List.take_of_length_le (by omega)
    rw [e1] at hsub
    refine ⟨_, fun w' => ?_, hsub⟩
    rw [slL22 (by omega) (by omega) hac]
    simp

def IsRefs (w : World) (v : Value) (L : List PartR) : Prop := RdV w v L.length (flat refC L) ∧ ∀ p ∈ L, okR p
theorem IsRefs.fr0 {w w' : World} {v : Value} {L : List PartR} (h : IsRefs w v L) (hf : Fr [] w w') : IsRefs w' v L := ⟨h.1.fr0 hf, h.2⟩
theorem refC_len : ∀ (L : List PartR), ∀ p ∈ L, (refC p).length = 6 := fun _ _ _ => rfl
theorem refC_one {p : PartR} : ∀ v ∈ refC p, v.oneCell' = true := by
  have := refC_oneT p
  simpa using this
def encRs (L : List PartR) : List UInt8 := (L.map encR).flatten
theorem encRs_take {L : List PartR} {j : Nat} {p : PartR} (h : L[j]? = some p) : encRs (L.take (j + 1)) = encRs (L.take j) ++ encR p := by
  rw [List.take_add_one, h]; simp [encRs]
theorem encRs_take_le (L : List PartR) (j : Nat) : (encRs (L.take j)).length ≤ (encRs L).length := by
  have : encRs L = encRs (L.take j) ++ encRs (L.drop j) := by
    unfold encRs
    rw [← List.flatten_append, ← List.map_append, List.take_append_drop]
  rw [this, List.length_append]; omega
theorem rd_max {w : World} {v : Value} {n : Nat} {cs : List Value} (h : RdV w v n cs) : n ≤ 9223372036854775807 := h.len

def FwI (w : World) (v : Value) (L : List PartR) (m : Nat) (e : Env) (w' : World) : Prop :=
  ∃ (j : Nat) (ov : Value), m = L.length - j ∧ j ≤ L.length ∧ w'.ownsRow (sz w) 5 1 ov (encRs (L.take j)).length (bs (encRs (L.take j))) ∧ Fr [] w w' ∧ e 0 = v ∧ e 3 = ov ∧ e 4 = i64 j
theorem fwrite_spec {w : World} {v : Value} {L : List PartR} (h : IsRefs w v L) (hl : (encRs L).length ≤ 1000000000) : Ret P 79 #[v] w fun x w' => NewB w x (encRs L) w' := by
  refine F79ok ?_
  unfold F79
  obtain ⟨va, vc, hv⟩ := sl_of h.1
  have hmx := rd_max h.1
  have b2 : ∀ w, pBuildSlice P 22 0 [] w = some (sl (sz w) 0 0 0, nw w [] 5) := fun w => by rw [bsl22 (by omega) (by simp)]; simp
  try simp (maxDischargeDepth := 8) [↓sC, sB, sM, b2]
  refine loopE_of (FwI w v L) L.length ⟨0, sl (sz w) 0 0 0, by omega, by omega, ?_, (Fr.refl [] w).nw _ _, by simp [put_get, argE_get], by simp [put_get], by simp [put_get]⟩ ?_
  · exact pkown_nw (Nat.le_refl _) rfl (by unfold maxLen; omega)
  rintro m e w1 ⟨j, ov, hm, hj, hown, hf, e0, e3, e4⟩
  subst hm
  unfold F79B0
  subst hv
  by_cases hjl : j < L.length
  · have hji : (j : Int) < L.length := by omega
    obtain ⟨p, hp⟩ : ∃ p, L[j]? = some p := ⟨_, List.getElem?_eq_getElem hjl⟩
    have hok := h.2 p (List.mem_of_getElem? hp)
    obtain ⟨pb, po, pc, hv2, hpb, hin, htk⟩ := flat_at (h.fr0 hf).1 (refC_len L) (by omega) hp
    simp only [Value.slice.injEq] at hv2
    obtain ⟨rfl, _, rfl⟩ := hv2
    have hnext := encRs_take hp
    have hlen := encRs_take_le L (j + 1)
    rw [hnext, List.length_append] at hlen
    have hwj : IntKind.i64.wrap ((j : Int) + 1) = ((j + 1 : Nat) : Int) := wrap64 (by omega) (by omega)
    have hia : ∀ w', pIndexAddr P 129 (sl pb po L.length vc) (i64 j) w' = some (pt pb (po + j * 6), w') := fun w' => by
      have := ia129 (w := w') (b := pb) (o := po) (n := L.length) (c := vc) (k := .i64) (j := (j : Int)) (by omega) (by omega)
      rw [this]; simp
    try simp (maxDischargeDepth := 8) [↓sC, sB, sM, e0, e3, e4, hji, hjl, hia, hin, htk]
    refine (fone_spec hok).call ?_
    rintro x w2 ⟨hx, hf2⟩
    have hs2 := hf2.size
    obtain ⟨v', w3, hrun, hown', hg, _⟩ := append_own (P := P) (t := 22) (ty := 22) (sz w) sliceE22 hasZero5 cellsOf5 (by rw [zeroL5]; rfl) (by omega) (own_fr hown hf2 (by simp)) (by have := hf.size; omega) (own_rd hx) (by simp) bs_one
      (by unfold maxLen; omega) (by rw [bytesOf5]; omega)
    try simp (maxDischargeDepth := 8) [↓sC, sB, sM, e0, e3, e4, hrun, hwj, -Int.natCast_add]
    refine ⟨L.length - (j + 1), by omega, j + 1, v', rfl, by omega, ?_, (hf.trans0 hf2).trans (Fr.of_grown hg) (fun k hk => .inr (hown.lt k (by simpa using hk)).1), by simp [put_get, e0], by simp [put_get], by simp [put_get]⟩
    rw [hnext, List.length_append, bs_append]
    exact hown'
  · have hje : j = L.length := by omega
    subst hje
    rw [List.take_length] at hown
    try simp (maxDischargeDepth := 8) [↓sC, sB, sM, e0, e3, e4]
    exact ⟨hown, hf⟩

/-- What the document's Read answers. -/
def FreadR (w : World) (r : List PartP × Nat × Nat) (x : Value) (w' : World) : Prop :=
  ∃ ov, x = .tuple #[ov, i64 r.2.1, i64 r.2.2] ∧ w'.ownsRow (sz w) 134 6 ov r.1.length (flat refC (r.1.map plain)) ∧ Fr [] w w'
def FrI (w : World) (v : Value) (B K : List UInt8) (most : Int) (m : Nat) (e : Env) (w' : World) : Prop :=
  ∃ (j k : Nat) (acc : List PartP) (ov : Value), m = K.length - j ∧ j ≤ K.length ∧ acc.length = j ∧ k ≤ B.length ∧ readGo most (K.drop j) (B.drop k) k acc = readM B K most ∧
    w'.ownsRow (sz w) 134 6 ov j (flat refC (acc.map plain)) ∧ Fr [] w w' ∧ e 0 = v ∧ e 1 = strB K ∧ e 2 = i64 most ∧ e 9 = ov ∧ e 10 = i64 k ∧ e 11 = i64 j
theorem partM_le (kind : UInt8) (most : Int) (l : List UInt8) : (partM kind most l).2.1 ≤ l.length := by
  have hn := num_le l
  unfold partM
  split
  · exact hn
  · split
    · exact hn
    · split
      · show (floatM l).2.1 ≤ l.length
        unfold floatM
        by_cases h8 : l.length < 8
        · rw [placeM_short 8 0 l h8]; simp
        · have := placeM_long 8 0 l (by omega)
          rw [Prod.ext_iff] at this
          simp only at this
          simp only [this.2, ne_eq, not_true_eq_false, if_false]
          split <;> simp only [this.1] <;> omega
      · split
        · show (strM most l).2.1 ≤ l.length
          unfold strM
          simp only
          split
          · exact hn
          · split
            · exact hn
            · split
              · exact hn
              · simp only; omega
        · split
          · show (flagM l).2.1 ≤ l.length
            cases l with
            | nil => simp [flagM]
            | cons x r => simp only [flagM]; split <;> simp
          · simp
theorem fread_spec {w : World} {v : Value} {B K : List UInt8} {most : Int} (h : RdV w v B.length (bs B)) (hm : most < 9223372036854775808) (hm0 : -9223372036854775808 ≤ most) (hK : K.length ≤ 1000000) :
    Ret P 78 #[v, strB K, i64 most] w fun x w' => FreadR w (readM B K most) x w' := by
  refine F78ok ?_
  unfold F78
  have hmx := h.len
  have b2 : ∀ w, pBuildSlice P 129 0 [] w = some (sl (sz w) 0 0 0, nw w [] 134) := fun w => by rw [bsl129 (by omega) (by simp)]; simp
  have hlen : ∀ w, pBuiltin P .len #[9] 3 [strB K] w = some (i64 K.length, w) := fun w => len_strB und9
  try simp (maxDischargeDepth := 8) [↓sC, sB, sM, b2]
  refine loopE_of (FrI w v B K most) K.length ⟨0, 0, [], sl (sz w) 0 0 0, by omega, by omega, rfl, by omega, rfl, ?_, (Fr.refl [] w).nw _ _, by simp [put_get, argE_get], by simp [put_get, argE_get], by simp [put_get, argE_get], by simp [put_get], by simp [put_get], by simp [put_get]⟩ ?_
  · exact pkown_nw (Nat.le_refl _) rfl (by unfold maxLen; omega)
  rintro m e w1 ⟨j, k, acc, ov, hjm, hj, hacc, hkB, hgo, hown, hf, e0, e1, e2, e9, e10, e11⟩
  subst hjm
  unfold F78B0
  by_cases hjl : j < K.length
  · have hji : (j : Int) < K.length := by omega
    have hwj : IntKind.i64.wrap ((j : Int) + 1) = ((j + 1 : Nat) : Int) := wrap64 (by omega) (by omega)
    have hix : ∀ w, pIndex P 9 (strB K) (i64 j) w = some (bv (gb K j), w) := fun w => ix_strB und9 hjl
    obtain ⟨S, hsl, hS⟩ := sl_lo (h.fr0 hf) hkB
    have hKd : K.drop j = gb K j :: K.drop (j + 1) := drop_gb hjl
    rw [hKd] at hgo
    generalize gb K j = kind at *
    rw [readGo] at hgo
    have hple := partM_le kind most (B.drop k)
    rw [List.length_drop] at hple
    try simp (maxDischargeDepth := 8) [↓sC, sB, sM, e0, e1, e2, e9, e10, e11, hlen, hji, hjl, hix, hsl]
    obtain ⟨r, hr⟩ : ∃ r, r = partM kind most (B.drop k) := ⟨_, rfl⟩
    rw [← hr] at hgo hple
    have hspec : ∀ w', Fr [] w1 w' → Ret P 83 #[S, bv kind, i64 most] w' fun x w'' => FirstR w' r x w'' := fun w' hf' => by
      rw [hr]; exact ffirst_spec (hS.fr0 hf') hm hm0
    have hs6 : ∀ p l : List Value, l.length = 6 → p.length = 6 → splice l 0 p = p := fun p l hl hp => splice_full (by rw [hl, hp])
    have hpl : ∀ p, (refC p).length = 6 := fun _ => rfl
    refine drawE_of (fun e' w' => ∃ (q : PartR) (b : Nat), e' 12 = pt b 0 ∧ mm w' b = refC q ∧ (r.2.2 = 0 → q = plain r.1) ∧ e' 13 = i64 r.2.1 ∧ e' 14 = i64 r.2.2 ∧ Fr [] w1 w' ∧
      e' 0 = v ∧ e' 1 = strB K ∧ e' 2 = i64 most ∧ e' 9 = ov ∧ e' 10 = i64 k ∧ e' 11 = i64 j) ?_ ?_
    · intro kk kp hkk
      constructor
      · refine (hspec _ (Fr.refl [] w1).drew).call ?_
        rintro _ w2 ⟨q, rfl, hq, hf2⟩
        try simp (maxDischargeDepth := 8) [↓sC, sB, sM, hpl, hs6, refC_oneT]
        refine hkk _ _ ⟨q, sz w2, by simp [put_get], by simp [sM], hq, by simp [put_get], by simp [put_get], (((Fr.refl [] w1).drew.trans0 hf2).nw _ _).wr (.inr (by have := hf2.size; rw [sz_drew] at this; omega)) _, by simp [put_get, e0], by simp [put_get, e1], by simp [put_get, e2], by simp [put_get, e9], by simp [put_get, e10], by simp [put_get, e11]⟩
      · have hfa : ∀ t, Fr [] w1 (nw (drew w1) t 134) := fun t => (Fr.refl [] w1).drew.nw _ _
        refine (hspec _ (hfa _)).call ?_
        rintro _ w2 ⟨q, rfl, hq, hf2⟩
        skip
        have hs2 := hf2.size
        rw [sz_nw, sz_drew] at hs2
        have hz2 : fz w2 (sz w1) = false := by rw [hf2.fz (by simp [sM]) (by simp)]; simp [sM]
        have hl2 : (mm w2 (sz w1)).length = 6 := by rw [hf2.mm (by simp [sM]) (by simp)]; simp [sM]
        try simp (maxDischargeDepth := 8) [↓sC, sB, sM, hpl, hs6, refC_oneT, hz2, hl2]
        refine hkk _ _ ⟨q, sz w1, by simp [put_get], mm_wr_same hz2 _, hq, by simp [put_get], by simp [put_get], ((hfa _).trans0 hf2).wr (.inr (Nat.le_refl _)) _, by simp [put_get, e0], by simp [put_get, e1], by simp [put_get, e2], by simp [put_get, e9], by simp [put_get, e10], by simp [put_get, e11]⟩
    · rintro e' w2 ⟨q, b, a12, hmb, hq, a13, a14, hf2, a0, a1, a2, a9, a10, a11⟩
      have hwk : IntKind.i64.wrap ((k : Int) + r.2.1) = ((k + r.2.1 : Nat) : Int) := wrap64 (by omega) (by omega)
      obtain ⟨k2, hk2⟩ : ∃ k2, k2 = k + r.2.1 := ⟨_, rfl⟩
      rw [← hk2] at hwk hgo
      have g2 := hf.trans0 hf2
      by_cases hc : r.2.2 = 0
      · rw [if_neg (by simpa using hc)] at hgo
        have hbs : ∀ w, pBuildSlice P 129 1 [(0, .agg (refC q).toArray)] w = some (sl (sz w) 0 1 1, nw w (refC q) 134) := fun w => by
          rw [bsl129 (by omega) (by simp [refC])]; simp [refC, splice]
        have hown3 := own_fr hown (hf2.nw (refC q) 134) (by simp)
        have hrd : RdV (nw w2 (refC q) 134) (sl (sz w2) 0 1 1) 1 (refC q) := rd_new w2 (refC q) 134 (n := 1) (by unfold maxLen; omega)
        have hs1 := hf.size
        have hs2 := hf2.size
        obtain ⟨v', w3, hrun, hown', hg, _⟩ := append_own (P := P) (t := 129) (ty := 129) (sz w) sliceE129 hasZero134 cellsOf134 (by rw [zeroL134]; rfl) (by omega) hown3 (by rw [sz_nw]; omega) hrd rfl refC_one
          (by unfold maxLen; omega) (by rw [bytesOf134]; omega)
        have hc' : (r.2.2 = 0) = True := eq_true hc
        have ht6 : List.take 6 (refC q) = refC q := rfl
        try simp (maxDischargeDepth := 8) [↓sC, sB, sM, a12, a13, a14, a0, a9, a10, a11, hwk, hc', hmb, hpl, ht6, hbs, hrun, hwj, -Int.natCast_add]
        refine ⟨K.length - (j + 1), by omega, j + 1, k2, acc ++ [r.1], v', rfl, by omega, by simp [hacc], by omega, ?_, ?_, (g2.nw (refC q) 134).trans (Fr.of_grown hg) (fun c hc => .inr (hown.lt c (by simpa using hc)).1),
          by simp [put_get, a0], by simp [put_get, a1], by simp [put_get, a2], by simp [put_get], by simp [put_get], by simp [put_get]⟩
        · rw [← hgo, List.drop_drop, hk2]
        · have : flat refC ((acc ++ [r.1]).map plain) = flat refC (acc.map plain) ++ refC q := by
            rw [List.map_append, flat_append, hq hc]; simp [flat]
          rw [this]
          exact hown'
      · rw [if_pos hc] at hgo
        have hc' : (r.2.2 = 0) = False := eq_false hc
        try simp (maxDischargeDepth := 8) [↓sC, sB, sM, a12, a13, a14, a0, a9, a10, a11, hwk, hc', -Int.natCast_add]
        rw [← hgo]
        exact ⟨.slice none 0 0, rfl, World.ownsRow_nil _ _ _ _, g2⟩
  · have hje : j = K.length := by omega
    subst hje
    rw [List.drop_length, readGo, List.length_drop] at hgo
    obtain ⟨va, vc, hv⟩ := sl_of h
    subst hv
    by_cases hlt : k < B.length
    · have c1 : ((k : Int) < B.length) = True := eq_true (by omega)
      have c2 : (k < B.length) = True := eq_true hlt
      rw [if_pos (by omega)] at hgo
      try simp (maxDischargeDepth := 8) [↓sC, sB, sM, e0, e1, e9, e10, e11, hlen, c1, c2]
      rw [← hgo]
      exact ⟨.slice none 0 0, rfl, World.ownsRow_nil _ _ _ _, hf⟩
    · have c1 : ((k : Int) < B.length) = False := eq_false (by omega)
      have c2 : (k < B.length) = False := eq_false hlt
      rw [if_neg (by omega)] at hgo
      try simp (maxDischargeDepth := 8) [↓sC, sB, sM, e0, e1, e9, e10, e11, hlen, c1, c2]
      rw [← hgo]
      rw [← hacc] at hown
      exact ⟨ov, rfl, hown, hf⟩
end Go.Proofs.Yticncfkpfpkfoaa
