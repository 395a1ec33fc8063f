/- What a Writer's calls do. -/
import Derived.Test.YtieejbkbdfccdaaDoorSim
import Derived.Test.YtieejbkbdfccdaaDoorPrims4
import Derived.Test.YtieejbkbdfccdaaDoorTypes
import Derived.Test.YtieejbkbdfccdaaDoorPackM
import Derived.Test.YtieejbkbdfccdaaDoorFloWalk
import Derived.Test.YtieejbkbdfccdaaDoorWPack
set_option linter.unusedVariables false
set_option linter.unusedSimpArgs false
namespace Go.Proofs.YtieejbkbdfccdaaDoor
open Go

/-- At block 'b' lies a Writer that holds the bytes 'B'. -/
def IsW (w : World) (b : Nat) (B : List UInt8) (F : List Nat) : Prop :=
  ∃ v, mm w b = [v] ∧ fz w b = false ∧ w.ownsRow 0 5 1 v B.length (bs B) ∧ (∀ k, v.ownBlock = some k → k ≠ b ∧ k ∈ F) ∧ b ∈ F ∧ ∀ k ∈ F, k < sz w
theorem IsW.fr {w w' : World} {b : Nat} {B : List UInt8} {F S : List Nat} (h : IsW w b B F) (hf : Fr S w w') (hS : ∀ k ∈ F, k ∉ S) : IsW w' b B F := by
  obtain ⟨v, h1, h2, h3, h4, h5, h6⟩ := h
  exact ⟨v, by rw [hf.mm (h6 b h5) (hS b h5), h1], by rw [hf.fz (h6 b h5) (hS b h5), h2], own_fr h3 hf (fun k hk => hS k (h4 k hk).2), h4, h5, fun k hk => hf.lt (h6 k hk)⟩
theorem IsW.fr0 {w w' : World} {b : Nat} {B : List UInt8} {F : List Nat} (h : IsW w b B F) (hf : Fr [] w w') : IsW w' b B F := h.fr hf (by simp)
theorem cell_gt {w : World} {b : Nat} {v : Value} (h : mm w b = [v]) : gt (mm w b) 0 = v ∧ (mm w b).length = 1 := by rw [h]; exact ⟨rfl, rfl⟩
/-- What is appended to a Writer's bytes. -/
theorem IsW.done {w w0 w1 : World} {b : Nat} {B l : List UInt8} {F : List Nat} {v v' : Value} (h2 : fz w b = false) (h4 : ∀ k, v.ownBlock = some k → k ≠ b ∧ k ∈ F) (h5 : b ∈ F) (h6 : ∀ k ∈ F, k < sz w)
    (hm : mm w b = [v]) (hf0 : Fr [] w w0) (hown : w1.ownsRow 0 5 1 v' (B.length + l.length) (bs B ++ bs l)) (hg : w0.grownBy w1 v.ownBlock) (hv : v'.ownBlock = v.ownBlock ∨ v'.ownBlock = some (sz w0)) :
    mm w1 b = [v] ∧ fz w1 b = false ∧ v'.oneCell' = true ∧ ∃ F', IsW (wr w1 b [v']) b (B ++ l) F' ∧ Fr F w (wr w1 b [v']) ∧ ∀ k ∈ F', k ∈ F ∨ sz w ≤ k := by
  have hb := h6 b h5
  have hf1 := Fr.of_grown hg
  have hnb : b ∉ v.ownBlock.toList := fun hk => (h4 b (by simpa using hk)).1 rfl
  have hb0 := hf0.lt hb
  have hfF : Fr F w w1 := (hf0.mono (T := F) (by simp)).trans hf1 (fun k hk => .inl (h4 k (by simpa using hk)).2)
  refine ⟨by rw [hf1.mm hb0 hnb, hf0.mm hb (by simp), hm], by rw [hf1.fz hb0 hnb, hf0.fz hb (by simp), h2], ?_, ?_⟩
  · obtain ⟨a, c, rfl⟩ := own_val hown; rfl
  · have hbw : ∀ k, v'.ownBlock = some k → k ≠ b := fun k hk => by
      rcases hv with hv | hv
      · exact (h4 k (by rw [← hv]; exact hk)).1
      · have : k = sz w0 := by rw [hv] at hk; simpa using hk.symm
        omega
    refine ⟨v'.ownBlock.toList ++ F, ⟨v', ?_, ?_, ?_, ?_, by simp [h5], ?_⟩, hfF.wr (.inl h5) _, ?_⟩
    · exact mm_wr_same (by rw [hf1.fz hb0 hnb, hf0.fz hb (by simp), h2]) _
    · rw [fz_wr, hf1.fz hb0 hnb, hf0.fz hb (by simp), h2]
    · rw [bs_append, List.length_append]
      exact own_fr hown ((Fr.refl [b] w1).wr (.inl (by simp)) _) (fun k hk => by simpa using hbw k hk)
    · intro k hk; exact ⟨hbw k hk, by simp [hk]⟩
    · intro k hk
      rw [sz_wr]
      rcases List.mem_append.1 hk with hk | hk
      · exact (hown.lt k (by simpa using hk)).2
      · exact hf1.lt (hf0.lt (h6 k hk))
    · intro k hk
      rcases List.mem_append.1 hk with hk | hk
      · have hk' : v'.ownBlock = some k := by simpa using hk
        rcases hv with hv | hv
        · exact .inl (h4 k (by rw [← hv]; exact hk')).2
        · have : k = sz w0 := by rw [hv] at hk'; simpa using hk'.symm
          exact .inr (by have := hf0.size; omega)
      · exact .inl hk
theorem app_bytes {w w0 : World} {b : Nat} {B l : List UInt8} {F : List Nat} {x : Value} (h : IsW w b B F) (hf0 : Fr [] w w0) (hr : RdV w0 x l.length (bs l)) (hl : B.length + l.length ≤ 1000000000) :
    ∃ v v' w1, mm w b = [v] ∧ pBuiltin P .append #[28, 28] 28 [v, x] w0 = some (v', w1) ∧ mm w1 b = [v] ∧ fz w1 b = false ∧ v'.oneCell' = true ∧
      ∃ F', IsW (wr w1 b [v']) b (B ++ l) F' ∧ Fr F w (wr w1 b [v']) ∧ ∀ k ∈ F', k ∈ F ∨ sz w ≤ k := by
  obtain ⟨v, h1, h2, h3, h4, h5, h6⟩ := h
  obtain ⟨v', w1, hrun, hown, hg, hv⟩ := append_own2 (P := P) (t := 28) (ty := 28) 0 sliceE28 hasZero5 cellsOf5 (by rw [zeroL5]; rfl) (by omega) (own_fr h3 hf0 (by simp)) (Nat.zero_le _) hr (by simp) bs_one
    (by unfold maxLen; omega) (by rw [bytesOf5]; omega)
  exact ⟨v, v', w1, h1, hrun, IsW.done h2 h4 h5 h6 h1 hf0 hown hg hv⟩
theorem app_str {w w0 : World} {b : Nat} {B l : List UInt8} {F : List Nat} (h : IsW w b B F) (hf0 : Fr [] w w0) (hl : B.length + l.length ≤ 1000000000) :
    ∃ v v' w1, mm w b = [v] ∧ pBuiltin P .append #[28, 9] 28 [v, strB l] w0 = some (v', w1) ∧ mm w1 b = [v] ∧ fz w1 b = false ∧ v'.oneCell' = true ∧
      ∃ F', IsW (wr w1 b [v']) b (B ++ l) F' ∧ Fr F w (wr w1 b [v']) ∧ ∀ k ∈ F', k ∈ F ∨ sz w ≤ k := by
  obtain ⟨v, h1, h2, h3, h4, h5, h6⟩ := h
  obtain ⟨v', w1, hrun, hown, hg, hv⟩ := append_str (P := P) (t := 28) (u := 9) (ty := 28) 0 sliceE28 und9 hasZero5 cellsOf5 (by rw [zeroL5]; rfl) (own_fr h3 hf0 (by simp)) (Nat.zero_le _) (l := l)
    (by unfold maxLen; omega) (by rw [bytesOf5]; omega)
  exact ⟨v, v', w1, h1, hrun, IsW.done h2 h4 h5 h6 h1 hf0 hown hg hv⟩

/-- What a call leaves: the Writer holds more bytes. -/
structure More (w : World) (b : Nat) (B : List UInt8) (F : List Nat) (w' : World) (F' : List Nat) : Prop where
  is : IsW w' b B F'
  fr : Fr F w w'
  new : ∀ k ∈ F', k ∈ F ∨ sz w ≤ k
theorem More.trans {w w1 w2 : World} {b : Nat} {B C : List UInt8} {F F1 F2 : List Nat} (h : More w b B F w1 F1) (h' : More w1 b C F1 w2 F2) : More w b C F w2 F2 :=
  ⟨h'.is, h.fr.trans h'.fr h.new, fun k hk => (h'.new k hk).elim (h.new k) fun h2 => .inr (Nat.le_trans h.fr.size h2)⟩
theorem More.refl {w : World} {b : Nat} {B : List UInt8} {F : List Nat} (h : IsW w b B F) : More w b B F w F := ⟨h, Fr.refl _ _, fun k hk => .inl hk⟩
theorem More.calm {w w1 w2 : World} {b : Nat} {B : List UInt8} {F F1 : List Nat} (h : More w b B F w1 F1) (hf : Fr [] w1 w2) : More w b B F w2 F1 := ⟨h.is.fr0 hf, h.fr.trans0 hf, h.new⟩

def UI (w : World) (b : Nat) (B : List UInt8) (F : List Nat) (n : Nat) (m : Nat) (e : Env) (w' : World) : Prop :=
  ∃ (C : List UInt8) (F' : List Nat), B ++ digits n = C ++ digits m ∧ m ≤ n ∧ More w b C F w' F' ∧ e 0 = pt b 0 ∧ e 1 = u64 m

theorem wU_spec {w : World} {b : Nat} {B : List UInt8} {F : List Nat} {n : Nat} (h : IsW w b B F) (hn : n < 2 * H63) (hl : B.length + (digits n).length ≤ 1000000000) :
    Ret P 50 #[pt b 0, u64 n] w fun v w' => v = .tuple #[] ∧ ∃ F', More w b (B ++ digits n) F w' F' := by
  refine F50ok ?_
  unfold F50
  refine loopE_of (UI w b B F n) n ⟨B, F, rfl, Nat.le_refl _, More.refl h, rfl, rfl⟩ ?_
  rintro j e w1 ⟨C, F1, hC, hj, hm, e0, e1⟩
  unfold F50B0
  obtain ⟨v0, q1, q2, _⟩ := hm.is
  obtain ⟨x, hx⟩ : ∃ x, x = UInt8.ofNat j := ⟨_, rfl⟩
  have hw8 : IntKind.u8.wrap (j : Int) = (x.toNat : Int) := by rw [hx]; exact wrap8_mod j
  by_cases hjl : j < 128
  · have hjl' : ¬ (128 : Int) ≤ j := by omega
    rw [digits_lt hjl, ← hx] at hC
    have hlen : C.length + [x].length ≤ 1000000000 := by
      have := congrArg List.length hC
      simp only [List.length_append] at this
      omega
    have hf0 : Fr [] w1 (nw w1 [bv x] 5) := (Fr.refl [] w1).nw _ _
    obtain ⟨v, v', w2, p1, p2, p3, p4, p5, F', p6⟩ := app_bytes hm.is hf0 (l := [x]) (rd_new w1 [bv x] 5 (n := 1) (by unfold maxLen; omega)) hlen
    try simp (maxDischargeDepth := 8) [↓sC, sB, sM, e0, e1, hjl', hjl, hw8, p1, p2, p3, p4, p5]
    rw [hC]
    exact ⟨F', hm.trans ⟨p6.1, p6.2.1, p6.2.2⟩⟩
  · have hjl' : (128 : Int) ≤ j := by omega
    obtain ⟨y, hy⟩ : ∃ y, y = x ||| 128 := ⟨_, rfl⟩
    have hor : ∀ w, pBin P .or 5 true (bv x) (Value.int .u8 128) w = some (bv y, w) := fun w => by rw [hy]; exact pOr8 (x := x) (y := 128)
    have hsh : ∀ w, pBin P .shr 58 true (u64 j) (Value.int .u64 7) w = some (u64 (j / 128), w) := fun w => by
      have := pShrU (P := P) (t := 58) (w := w) (lit := true) (a := j) (k := .u64) (y := 7) (by omega) (by omega)
      simpa using this
    rw [digits_ge hjl, ← or128, ← hx, ← hy] at hC
    have hC2 : B ++ digits n = (C ++ [y]) ++ digits (j / 128) := by rw [hC]; simp
    have hlen : C.length + [y].length ≤ 1000000000 := by
      have := congrArg List.length hC2
      simp only [List.length_append] at this ⊢
      omega
    have hf0 : Fr [] w1 (nw w1 [bv y] 5) := (Fr.refl [] w1).nw _ _
    obtain ⟨v, v', w2, p1, p2, p3, p4, p5, F', p6⟩ := app_bytes hm.is hf0 (l := [y]) (rd_new w1 [bv y] 5 (n := 1) (by unfold maxLen; omega)) hlen
    try simp (maxDischargeDepth := 8) [↓sC, sB, sM, e0, e1, hjl', hjl, hw8, hor, hsh, p1, p2, p3, p4, p5]
    refine ⟨j / 128, by omega, C ++ [y], F', hC2, by omega, hm.trans ⟨p6.1, p6.2.1, p6.2.2⟩, by simp [put_get, e0], by simp [put_get]⟩

theorem shl1 (n : Int) (h0 : -9223372036854775808 ≤ n) (h1 : n < 9223372036854775808) :
    ((BitVec.ofInt 64 (IntKind.u64.wrap (IntKind.u64.wrap n * 2))) ^^^ (BitVec.ofInt 64 (IntKind.u64.wrap (if n < 0 then -1 else 0)))).toNat = zig n := by
  by_cases hn : n < 0
  · have hz : zig n = (-(n + 1)).toNat * 2 + 1 := by unfold zig; rw [if_pos hn]
    rw [if_pos hn, hz]
    have e1 : BitVec.ofInt 64 (IntKind.u64.wrap (-1)) = BitVec.allOnes 64 := by decide
    have e2 : IntKind.u64.wrap (IntKind.u64.wrap n * 2) = ((n * 2) % 18446744073709551616) := by
      unfold IntKind.wrap
      simp only [IntKind.bits, IntKind.signed, Bool.false_and, Bool.false_eq_true, if_false]
      omega
    rw [e1, e2, BitVec.xor_comm, BitVec.allOnes_xor, BitVec.toNat_not, BitVec.toNat_ofInt]
    omega
  · have hz : zig n = n.toNat * 2 := by unfold zig; rw [if_neg hn]
    rw [if_neg hn, hz]
    have e1 : BitVec.ofInt 64 (IntKind.u64.wrap 0) = 0 := by decide
    have e2 : IntKind.u64.wrap (IntKind.u64.wrap n * 2) = n * 2 := by
      unfold IntKind.wrap
      simp only [IntKind.bits, IntKind.signed, Bool.false_and, Bool.false_eq_true, if_false]
      omega
    have e3 : ∀ x : BitVec 64, x ^^^ 0 = x := fun x => by simp
    rw [e1, e2, e3, BitVec.toNat_ofInt]
    omega
theorem zig_lt {n : Int} (h0 : -9223372036854775808 ≤ n) (h1 : n < 9223372036854775808) : zig n < 2 * H63 := by
  unfold zig H63; split <;> omega
theorem wI_spec {w : World} {b : Nat} {B : List UInt8} {F : List Nat} {n : Int} (h : IsW w b B F) (h0 : -9223372036854775808 ≤ n) (h1 : n < 9223372036854775808) (hl : B.length + (digits (zig n)).length ≤ 1000000000) :
    Ret P 54 #[pt b 0, i64 n] w fun v w' => v = .tuple #[] ∧ ∃ F', More w b (B ++ digits (zig n)) F w' F' := by
  refine F54ok ?_
  unfold F54
  have hs1 : ∀ w, pBin P .shl 58 true (Value.int .u64 (IntKind.u64.wrap n)) (Value.int .u64 1) w = some (.int .u64 (IntKind.u64.wrap (IntKind.u64.wrap n * 2)), w) := fun w => by
    have := pBin_shl (P := P) (t := 58) (w := w) (lit := true) (k := .u64) (x := IntKind.u64.wrap n) (k' := .u64) (y := 1) (by omega)
    have e : min (1 : Int).toNat IntKind.u64.bits = 1 := by decide
    rw [e] at this
    simpa using this
  have hs2 : ∀ w, pBin P .shr 2 true (i64 n) (Value.int .u64 63) w = some (i64 (if n < 0 then -1 else 0), w) := fun w => by
    have := pBin_shr (P := P) (t := 2) (w := w) (lit := true) (k := .i64) (x := n) (k' := .u64) (y := 63) (by omega)
    rw [this]
    congr 3
    have e : min (63 : Int).toNat IntKind.i64.bits = 63 := by decide
    rw [e, Int.fdiv_eq_ediv_of_nonneg _ (by decide)]
    split <;> omega
  have hx : ∀ w, pBin P .xor 58 false (Value.int .u64 (IntKind.u64.wrap (IntKind.u64.wrap n * 2))) (Value.int .u64 (IntKind.u64.wrap (if n < 0 then -1 else 0))) w = some (u64 (zig n), w) := fun w => by
    refine pBin_bits ?_ (.inr (.inr (.inl rfl)))
    rw [bits_xor, shl1 n h0 h1, wrapu (zig_lt h0 h1)]
    rfl
  try simp (maxDischargeDepth := 8) [↓sC, sB, sM, hs1, hs2, hx]
  refine (wU_spec h (zig_lt h0 h1) hl).call ?_
  rintro _ w1 ⟨rfl, hw⟩
  try simp (maxDischargeDepth := 8) [↓sC, sB, sM]
  exact hw

def FI (w : World) (b : Nat) (B : List UInt8) (F : List Nat) (k : Nat) (m : Nat) (e : Env) (w' : World) : Prop :=
  ∃ (F' : List Nat) (s : Int), m ≤ 8 ∧ s = 8 * (m : Int) - 8 ∧ More w b (B ++ (placeB k).take (8 - m)) F w' F' ∧ e 0 = pt b 0 ∧ e 4 = u64 k ∧ e 5 = i64 s
theorem placeB_take {k m : Nat} (h : m < 8) : (placeB k).take (8 - m) = (placeB k).take (8 - (m + 1)) ++ [UInt8.ofNat (k / 2 ^ (8 * m))] := by
  have : m = 0 ∨ m = 1 ∨ m = 2 ∨ m = 3 ∨ m = 4 ∨ m = 5 ∨ m = 6 ∨ m = 7 := by omega
  rcases this with rfl | rfl | rfl | rfl | rfl | rfl | rfl | rfl <;> simp [placeB]
theorem wF_spec {w : World} {b : Nat} {B : List UInt8} {F : List Nat} {a : Nat} (h : IsW w b B F) (ha : a < 2 * H63) (hl : B.length + 8 ≤ 1000000000) :
    Ret P 55 #[pt b 0, fl a] w fun v w' => v = .tuple #[] ∧ ∃ F', More w b (B ++ placeB (key a)) F w' F' := by
  refine F55ok ?_
  unfold F55
  refine (key_spec ha).call ?_
  rintro _ w1 ⟨rfl, hf1⟩
  have hk := key_lt ha
  generalize key a = k at *
  try simp (maxDischargeDepth := 8) [↓sC, sB, sM]
  refine loopE_of (FI w b B F k) 8 ⟨F, 56, by omega, by omega, by simpa using (More.refl h).calm hf1, by simp [put_get, argE_get], by simp [put_get], by simp [put_get]⟩ ?_
  rintro m e w2 ⟨F2, s, hm8, hs, hm, e0, e4, e5⟩
  unfold F55B0
  cases m with
  | zero =>
    have hge : ¬ (0 : Int) ≤ s := by omega
    try simp (maxDischargeDepth := 8) [↓sC, sB, sM, e5, hge]
    exact ⟨F2, hm⟩
  | succ m =>
    have hge : (0 : Int) ≤ s := by omega
    obtain ⟨x, hx⟩ : ∃ x, x = UInt8.ofNat (k / 2 ^ (8 * m)) := ⟨_, rfl⟩
    obtain ⟨q, hq⟩ : ∃ q, q = k / 2 ^ (8 * m) := ⟨_, rfl⟩
    rw [← hq] at hx
    have hw8 : IntKind.u8.wrap (q : Int) = (x.toNat : Int) := by rw [hx]; exact wrap8_mod _
    have hsh : ∀ w, pBin P .shr 58 false (u64 k) (i64 s) w = some (u64 q, w) := fun w => by
      have := pShrU (P := P) (t := 58) (w := w) (lit := false) (a := k) (k := .i64) (y := s) (by omega) (by omega)
      rw [this]
      have e : s.toNat = 8 * m := by omega
      rw [e, hq]
    have hwr : IntKind.i64.wrap (s - 8) = s - 8 := wrap64 (by omega) (by omega)
    have hlen : (B ++ (placeB k).take (8 - (m + 1))).length + [x].length ≤ 1000000000 := by simp [placeB]; omega
    obtain ⟨v0, q1, q2, q3, q4, q5, q6⟩ := id hm.is
    have hb2 := q6 b q5
    have hnb : ¬ b = sz w2 := by omega
    have hf0 : Fr [] w2 (nw (drew w2) [bv x] 5) := (Fr.refl [] w2).drew.nw _ _
    have hrd : RdV (nw (drew w2) [bv x] 5) (sl (sz w2) 0 1 1) 1 [bv x] := rd_new (drew w2) [bv x] 5 (n := 1) (by unfold maxLen; omega)
    obtain ⟨v, v', w3, p1, p2, p3, p4, p5, F', p6⟩ := app_bytes hm.is hf0 (l := [x]) hrd hlen
    try simp (maxDischargeDepth := 8) [↓sC, sB, sM, e0, e4, e5, hge, hsh, hw8, hwr, hnb, p1, p2, p3, p4, p5]
    refine ⟨m, by omega, F', s - 8, by omega, by omega, ?_, by simp [put_get, e0], by simp [put_get, e4], by simp [put_get]⟩
    rw [placeB_take (by omega), ← hq, ← hx, ← List.append_assoc]
    exact hm.trans ⟨p6.1, p6.2.1, p6.2.2⟩

theorem wS_spec {w : World} {b : Nat} {B l : List UInt8} {F : List Nat} (h : IsW w b B F) (hl : B.length + ((digits l.length).length + l.length) ≤ 1000000000) :
    Ret P 52 #[pt b 0, strB l] w fun v w' => v = .tuple #[] ∧ ∃ F', More w b (B ++ (digits l.length ++ l)) F w' F' := by
  refine F52ok ?_
  unfold F52
  have hlen : ∀ w, pBuiltin P .len #[9] 3 [strB l] w = some (i64 l.length, w) := fun w => len_strB und9
  have hwr : IntKind.u64.wrap (l.length : Int) = (l.length : Int) := wrapu (by unfold H63; omega)
  try simp (maxDischargeDepth := 8) [↓sC, sB, sM, hlen, hwr]
  refine (wU_spec h (n := l.length) (by unfold H63; omega) (by omega)).call ?_
  rintro _ w1 ⟨rfl, F1, hm⟩
  obtain ⟨v, v', w3, p1, p2, p3, p4, p5, F', p6⟩ := app_str hm.is (Fr.refl [] w1) (l := l) (by rw [List.length_append]; omega)
  try simp (maxDischargeDepth := 8) [↓sC, sB, sM, p1, p2, p3, p4, p5]
  refine ⟨F', ?_⟩
  rw [← List.append_assoc]
  exact hm.trans ⟨p6.1, p6.2.1, p6.2.2⟩

theorem wFlag_spec {w : World} {b : Nat} {B : List UInt8} {F : List Nat} {x : Bool} (h : IsW w b B F) (hl : B.length + 1 ≤ 1000000000) :
    Ret P 51 #[pt b 0, .bool x] w fun v w' => v = .tuple #[] ∧ ∃ F', More w b (B ++ [if x then 1 else 0]) F w' F' := by
  refine F51ok ?_
  unfold F51
  have key : ∀ y : UInt8, ∃ v v' w3, mm w b = [v] ∧ pBuiltin P .append #[28, 28] 28 [v, sl (sz w) 0 1 1] (nw w [bv y] 5) = some (v', w3) ∧ mm w3 b = [v] ∧ fz w3 b = false ∧ v'.oneCell' = true ∧
      ∃ F', IsW (wr w3 b [v']) b (B ++ [y]) F' ∧ Fr F w (wr w3 b [v']) ∧ ∀ k ∈ F', k ∈ F ∨ sz w ≤ k := fun y => by
    have hf0 : Fr [] w (nw w [bv y] 5) := (Fr.refl [] w).nw _ _
    exact app_bytes h hf0 (l := [y]) (rd_new w [bv y] 5 (n := 1) (by unfold maxLen; omega)) (by simpa using hl)
  obtain ⟨v0, q1, q2, q3, q4, q5, q6⟩ := id h
  have hnb : ¬ b = sz w := by have := q6 b q5; omega
  cases x with
  | true =>
    obtain ⟨v, v', w3, p1, p2, p3, p4, p5, F', p6⟩ := key 1
    have p2' : pBuiltin P .append #[28, 28] 28 [v, sl (sz w) 0 1 1] (nw w [Value.int .u8 1] 5) = some (v', w3) := p2
    try simp (maxDischargeDepth := 8) [↓sC, sB, sM, hnb, p1, p2', p3, p4, p5]
    exact ⟨F', p6.1, p6.2.1, p6.2.2⟩
  | false =>
    obtain ⟨v, v', w3, p1, p2, p3, p4, p5, F', p6⟩ := key 0
    have p2' : pBuiltin P .append #[28, 28] 28 [v, sl (sz w) 0 1 1] (nw w [Value.int .u8 0] 5) = some (v', w3) := p2
    try simp (maxDischargeDepth := 8) [↓sC, sB, sM, hnb, p1, p2', p3, p4, p5]
    exact ⟨F', p6.1, p6.2.1, p6.2.2⟩

/-- Bytes hands out a copy. -/
theorem wBytes_spec {w : World} {b : Nat} {B : List UInt8} {F : List Nat} (h : IsW w b B F) (hl : B.length ≤ 1000000000) :
    Ret P 25 #[pt b 0] w fun v w' => w'.ownsRow (sz w) 5 1 v B.length (bs B) ∧ Fr [] w w' := by
  refine F25ok ?_
  unfold F25
  obtain ⟨v0, q1, q2, q3, q4, q5, q6⟩ := id h
  have hrd : RdV w v0 B.length (bs B) := own_rd q3
  obtain ⟨v', w1, hrun, hown, hg, _⟩ := append_own (P := P) (t := 28) (ty := 28) (sz w) sliceE28 hasZero5 cellsOf5 (by rw [zeroL5]; rfl) (by omega) (World.ownsRow_nil w (sz w) 5 1) (Nat.le_refl _) hrd (by simp) bs_one
    (by unfold maxLen; omega) (by rw [bytesOf5]; omega)
  have hf : Fr [] w w1 := by simpa [Value.ownBlock] using Fr.of_grown hg
  simp only [Nat.zero_add, List.nil_append] at hown
  try simp (maxDischargeDepth := 8) [↓sC, sB, sM, q1, hrun]
  exact ⟨hown, hf⟩
end Go.Proofs.YtieejbkbdfccdaaDoor
