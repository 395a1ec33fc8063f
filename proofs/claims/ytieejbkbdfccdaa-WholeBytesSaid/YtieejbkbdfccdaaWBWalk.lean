/- WholeBytes: the walk. -/
import Derived.Test.YtieejbkbdfccdaaSim
import Derived.Test.YtieejbkbdfccdaaWBPlain
import Derived.Test.YtieejbkbdfccdaaWBSort
import Derived.Test.YtieejbkbdfccdaaWTop
import Derived.Test.YtieejbkbdfccdaaPackWr
import Derived.Lib.ConvBytes
set_option linter.unusedVariables false
set_option linter.unusedSimpArgs false
namespace Go.Proofs.Ytieejbkbdfccdaa
open Go

theorem row_at {α : Type} {w : World} {a : Option Addr} {n c : Nat} {L : List α} {f : α → Value} (h : RdV w (.slice a n c) L.length (L.map f)) {j : Nat} {x : α} (hx : L[j]? = some x) :
    ∃ b o, a = some ⟨b, o, none⟩ ∧ o + j < (mm w b).length ∧ gt (mm w b) (o + j) = f x := by
  have hj : j < L.length := (List.getElem?_eq_some_iff.1 hx).1
  rcases id h with ⟨_, _, _, h0, _⟩ | ⟨b, o, c', hv, h1, h2, h3, h4, h5⟩
  · omega
  · simp only [Value.slice.injEq] at hv
    obtain ⟨rfl, rfl, rfl⟩ := hv
    obtain ⟨q1, q2⟩ := h.cell (j := j) (by simpa using hj)
    refine ⟨b, o, rfl, q1, ?_⟩
    show (mm w b).getD (o + j) undef = f x
    rw [q2, List.getD_eq_getElem?_getD, List.getElem?_map, hx]; rfl
theorem bsl22_one {w : World} {a : Nat} : pBuildSlice P 22 1 [(0, fl a)] w = some (sl (sz w) 0 1 1, nw w [fl a] 25) := by
  rw [bsl22 (by omega) (by simp [Value.cells])]; rfl
theorem bsl30_one {w : World} {l : List UInt8} : pBuildSlice P 30 1 [(0, strB l)] w = some (sl (sz w) 0 1 1, nw w [strB l] 9) := by
  rw [bsl30 (by omega) (by simp [Value.cells, strB])]; rfl
theorem app30 {w : World} {base : Nat} {v : Value} {n : Nat} {xs : List Value} (h : w.ownsRow base 9 1 v n xs) (hb : base ≤ sz w) (hn : n < 1000000) {l : List UInt8} :
    ∃ v' w', pBuiltin P .append #[30, 30] 30 [v, sl (sz w) 0 1 1] (nw w [strB l] 9) = some (v', w') ∧ w'.ownsRow base 9 1 v' (n + 1) (xs ++ [strB l]) ∧ Fr v.ownBlock.toList w w' ∧ (v'.ownBlock = v.ownBlock ∨ v'.ownBlock = some (sz w + 1)) := by
  obtain ⟨v', w', hrun, hown, hg, hv⟩ := append_own2 (P := P) (t := 30) (ty := 30) base sliceE30 hasZero9 cellsOf9 (by rw [zeroL9]; rfl) (by omega) (own_fr h ((Fr.refl [] w).nw [strB l] 9) (by simp)) (by rw [sz_nw]; omega) (rd_new w [strB l] 9 (n := 1) (by unfold maxLen; omega)) rfl (by simp) (by unfold maxLen; omega) (by rw [bytesOf9]; omega)
  exact ⟨v', w', hrun, hown, ((Fr.refl _ w).nw _ _).trans (Fr.of_grown hg) (fun b hb => .inl hb), by rw [sz_nw] at hv; exact hv⟩
theorem app22 {w : World} {base : Nat} {v : Value} {n : Nat} {xs : List Value} (h : w.ownsRow base 25 1 v n xs) (hb : base ≤ sz w) (hn : n < 1000000) {l : Nat} :
    ∃ v' w', pBuiltin P .append #[22, 22] 22 [v, sl (sz w) 0 1 1] (nw w [fl l] 25) = some (v', w') ∧ w'.ownsRow base 25 1 v' (n + 1) (xs ++ [fl l]) ∧ Fr v.ownBlock.toList w w' ∧ (v'.ownBlock = v.ownBlock ∨ v'.ownBlock = some (sz w + 1)) := by
  obtain ⟨v', w', hrun, hown, hg, hv⟩ := append_own2 (P := P) (t := 22) (ty := 22) base sliceE22 hasZero25 cellsOf25 (by rw [zeroL25]; rfl) (by omega) (own_fr h ((Fr.refl [] w).nw [fl l] 25) (by simp)) (by rw [sz_nw]; omega) (rd_new w [fl l] 25 (n := 1) (by unfold maxLen; omega)) rfl (by simp [Value.oneCell']) (by unfold maxLen; omega) (by rw [bytesOf25]; omega)
  exact ⟨v', w', hrun, hown, ((Fr.refl _ w).nw _ _).trans (Fr.of_grown hg) (fun b hb => .inl hb), by rw [sz_nw] at hv; exact hv⟩
theorem conv_bytes {w : World} {l : List UInt8} (hl : l.length ≤ maxLen) : ∃ v w', pConv P 9 23 (strB l) w = some (v, w') ∧ RdV w' v l.length (bs l) ∧ Fr [] w w' := by
  have h := Lib.run_convert_string_bytes (P := P) w 9 23 5 ⟨l.toArray⟩ und9 (sliceE_und sliceE23) und5
  have hs : (⟨l.toArray⟩ : ByteArray).size = l.length := by simp [ByteArray.size]
  refine ⟨_, Lib.bytesWorld w 5 ⟨l.toArray⟩, by simp only [pConv, runV, strB, h]; rfl, .inr ⟨w.heap.size, 0, grownCap w l.length 0 5, by rw [hs], grownCap_ge w _ _ _, grownCap_le_maxLen w _ _ _ hl, ?_, ?_, ?_⟩, ⟨rfl, rfl, ?_, ?_⟩⟩
  · unfold sz; rw [Lib.bytesWorld_size]; omega
  · unfold mm; rw [Lib.bytesWorld_at_new]; simp [Lib.bytesCells, bs]
  · unfold mm; rw [Lib.bytesWorld_at_new]; simp [Lib.bytesCells, bs, bv]
  · unfold sz; rw [Lib.bytesWorld_size]; omega
  · intro b hb _; exact Lib.bytesWorld_at_old w 5 _ b hb
theorem read_f {a : Nat} (h : a < 2 * H63) : readM (placeB (key a)) [102] 0 = ([{ zP 102 with f := canon a }], 0, 0) := by
  have hf := floatM_enc (a := a) [] h
  rw [List.append_nil] at hf
  have hp : partM 102 0 (placeB (key a)) = ({ zP 102 with f := canon a }, 8, 0) := by
    unfold partM
    rw [if_neg (by decide), if_neg (by decide), if_pos rfl, hf]
  unfold readM
  rw [readGo, hp]
  simp only [ne_eq, not_true_eq_false, if_false]
  rw [show (placeB (key a)).drop 8 = [] from rfl, readGo]
  simp

def WB0I (w0 : World) (v : Value) (L : List Nat) (m : Nat) (e : Env) (w' : World) : Prop :=
  ∃ (j : Nat) (av : Value) (low high : Nat), m = L.length - j ∧ j ≤ L.length ∧ w'.ownsRow (sz w0) 9 1 av j ((L.take j).map fun a => strB (placeB (key a))) ∧ isLow L j low ∧ isHigh L j high ∧ Fr [] w0 w' ∧
    e 39 = v ∧ e 40 = i64 L.length ∧ e 41 = i64 j ∧ e 4 = av ∧ e 5 = fl low ∧ e 6 = fl high
theorem wb0_step {w : World} {a : Option Addr} {c : Nat} {L : List Nat} (hr : RdV w (.slice a L.length c) L.length (L.map fl)) (hok : ∀ x ∈ L, x < 2 * H63) (hL : L.length ≤ 200) {j : Nat} {e : Env} {w1 : World} (hj : j < L.length)
    (hI : WB0I w (.slice a L.length c) L (L.length - j) e w1) {K : KT} (hK : ∀ e' w'', WB0I w (.slice a L.length c) L (L.length - (j + 1)) e' w'' → K .normal e' w'') : F3B0 e w1 K := by
  obtain ⟨j', av, low, high, hm, hj', hown, hlow, hhigh, hf, e39, e40, e41, e4, e5, e6⟩ := hI
  have : j' = j := by omega
  subst this
  unfold F3B0
  obtain ⟨x, hx⟩ : ∃ x, L[j']? = some x := ⟨_, List.getElem?_eq_getElem hj⟩
  have hxl := hok x (List.mem_of_getElem? hx)
  obtain ⟨b, o, rfl, q1, q2⟩ := row_at (hr.fr0 hf) hx
  have hji : (j' : Int) < L.length := by omega
  have hwj : IntKind.i64.wrap ((j' : Int) + 1) = ((j' + 1 : Nat) : Int) := wrap64 (by omega) (by omega)
  try simp (maxDischargeDepth := 8) [↓sC, sB, sM, e39, e40, e41, e4, e5, e6, hji, hj, q1, q2, bd_qf, bs_qf, -bf28, -bsl32]
  have f2 : Fr [] w1 (nw w1 (flat partC [qf x]) 28) := (Fr.refl [] w1).nw _ _
  have okq : ∀ p ∈ [qf x], okP p := by
    intro p hp
    rw [List.mem_singleton] at hp
    subst hp
    exact ⟨by simp [qf, H63], ⟨by simp [qf], by simp [qf]⟩, hxl⟩
  refine (write_spec (L := [qf x]) ⟨rd_new w1 (flat partC [qf x]) 28 (n := 1) (by unfold maxLen; omega), okq⟩ (by rw [enc_qf]; simp [placeB])).call ?_
  rintro xb w2 ⟨hx2, f3⟩
  rw [enc_qf] at hx2
  have hc2 : pConv P 23 9 xb w2 = some (strB (placeB (key x)), w2) := conv_str sliceE23 intK5 und9 (own_rd hx2)
  have f12 := f2.trans0 f3
  have hs1 := (hf.trans0 f12).size
  obtain ⟨v', w3, hrun, hown3, f4, _⟩ := app30 (own_fr hown f12 (by simp)) hs1 (by omega) (l := placeB (key x))
  have hg3 : Fr [] w w3 := (hf.trans0 f12).trans f4 (fun k hk => .inr (hown.lt k (by simpa using hk)).1)
  try simp (maxDischargeDepth := 8) [↓sC, sB, sM, hc2, bsl30_one, -bsl30, hrun, e5, e6, e4]
  refine (min_spec hlow.1 hxl).call ?_
  rintro _ w4 ⟨rfl, f5⟩
  try simp (maxDischargeDepth := 8) [↓sC, sB, sM, e5, e6, e4]
  refine (max_spec hhigh.1 hxl).call ?_
  rintro _ w5 ⟨rfl, f6⟩
  try simp (maxDischargeDepth := 8) [↓sC, sB, sM, hwj, e41, -Int.natCast_add]
  refine hK _ _ ⟨j' + 1, v', _, _, rfl, by omega, ?_, isLow_step hlow hx hxl, isHigh_step hhigh hx hxl, (hg3.trans0 f5).trans0 f6, by simp [put_get, e39], by simp [put_get, e40], by simp [put_get], by simp [put_get], by simp [put_get], by simp [put_get]⟩
  rw [List.take_add_one, hx, List.map_append]
  exact own_fr (own_fr hown3 f5 (by simp)) f6 (by simp)

def WB1I (w0 : World) (s1 : Nat) (av : Value) (M : List Nat) (low high : Nat) (m : Nat) (e : Env) (w' : World) : Prop :=
  ∃ (j : Nat) (ov : Value), m = M.length - j ∧ j ≤ M.length ∧ RdV w' av M.length (M.map fun a => strB (placeB (key a))) ∧ w'.ownsRow s1 25 1 ov j ((M.take j).map fun a => fl (canon a)) ∧ s1 ≤ sz w' ∧ Fr [] w0 w' ∧
    e 62 = av ∧ e 63 = i64 M.length ∧ e 64 = i64 j ∧ e 9 = ov ∧ e 5 = fl low ∧ e 6 = fl high
theorem wb1_step {w : World} {s1 : Nat} {a : Option Addr} {c : Nat} {M : List Nat} {low high : Nat} (hs : sz w ≤ s1) (hav : ∀ b, (Value.slice a M.length c).ownBlock = some b → b < s1) (hok : ∀ x ∈ M, x < 2 * H63) (hL : M.length ≤ 200) {j : Nat} {e : Env} {w1 : World} (hj : j < M.length)
    (hI : WB1I w s1 (.slice a M.length c) M low high (M.length - j) e w1) {K : KT} (hK : ∀ e' w'', WB1I w s1 (.slice a M.length c) M low high (M.length - (j + 1)) e' w'' → K .normal e' w'') : F3B1 e w1 K := by
  obtain ⟨j', ov, hm, hj', hr, hown, hs1, hf, e62, e63, e64, e9, e5, e6⟩ := hI
  have : j' = j := by omega
  subst this
  unfold F3B1
  obtain ⟨x, hx⟩ : ∃ x, M[j']? = some x := ⟨_, List.getElem?_eq_getElem hj⟩
  have hxl := hok x (List.mem_of_getElem? hx)
  obtain ⟨b, o, rfl, q1, q2⟩ := row_at hr hx
  have hji : (j' : Int) < M.length := by omega
  have hwj : IntKind.i64.wrap ((j' : Int) + 1) = ((j' + 1 : Nat) : Int) := wrap64 (by omega) (by omega)
  obtain ⟨bv2, w2, hc2, hr2, f2⟩ := conv_bytes (w := w1) (l := placeB (key x)) (by simp [placeB, maxLen])
  have h102 : (Value.string { data := #[102] }) = strB [102] := rfl
  try simp (maxDischargeDepth := 8) [↓sC, sB, sM, e62, e63, e64, e9, hji, hj, q1, q2, hc2, h102]
  refine (packRead_spec hr2 (K := [102]) (most := 0) (by omega) (by simp)).call ?_
  rintro _ w3 ⟨pv, rfl, hpo, _, f3⟩
  rw [read_f hxl] at hpo ⊢
  obtain ⟨pa, pc, rfl⟩ := own_val hpo
  have hpr := own_rd hpo
  obtain ⟨pb, po, pc', hpv, hpb, hpin, hptk⟩ := flat_at (L := [{ zP 102 with f := canon x }]) (by simpa using hpr) (partC_len _) (by omega) (j := 0) rfl
  simp only [Value.slice.injEq] at hpv
  obtain ⟨rfl, _, rfl⟩ := hpv
  simp only [Nat.zero_mul, Nat.add_zero] at hpin hptk
  have hg3 : gt (mm w3 pb) (po + 3) = fl (canon x) := by rw [cell_of hptk (by omega)]; rfl
  have n1 : ¬ pb = sz w3 := by omega
  have n2 : ¬ sz w3 = pb := by omega
  have hin3 : po + 3 < (mm w3 pb).length := by omega
  obtain ⟨W, hW⟩ : ∃ W, W = wr (nw w3 [i64 0, i64 0] 35) (sz w3) [i64 0, i64 0] := ⟨_, rfl⟩
  have f4 : Fr [] w3 W := by rw [hW]; exact ((Fr.refl [] w3).nw _ _).wr (.inr (Nat.le_refl _)) _
  have hm1 : mm W pb = mm w3 pb := f4.mm hpb (by simp)
  have hm2 : mm W (sz w3) = [i64 0, i64 0] := by rw [hW]; exact mm_wr_same (by simp [fz_nw]) _
  have f14 := (f2.trans0 f3).trans0 f4
  have hsz14 := f14.size
  obtain ⟨v', w5, hrun, hown5, f5, hv5⟩ := app22 (own_fr hown f14 (by simp)) (by omega) (by omega) (l := canon x)
  have hg5 : Fr [] w w5 := (hf.trans0 f14).trans f5 (fun k hk => .inr (by have := (hown.lt k (by simpa using hk)).1; omega))
  try simp (maxDischargeDepth := 8) [↓sC, sB, sM, e62, e63, e64, e9, splice, n1, n2, ← hW, hm1, hm2]
  try simp (maxDischargeDepth := 8) [↓sC, sB, sM, hm1, hin3, hg3, bsl22_one, -bsl22, hrun, hwj, e64, -Int.natCast_add]
  refine hK _ _ ⟨j' + 1, v', rfl, by omega, ?_, ?_, ?_, hg5, by simp [put_get, e62], by simp [put_get, e63], by simp [put_get], by simp [put_get], by simp [put_get, e5], by simp [put_get, e6]⟩
  · refine (hr.fr0 f14).fr f5 (fun k hk hkm => ?_)
    have h1 := hav k hk
    have h2 := (hown.lt k (by simpa using hkm)).1
    omega
  · rw [List.take_add_one, hx, List.map_append]
    exact hown5
  · have := f5.size; omega

def WB2I (w0 : World) (ov : Value) (M : List Nat) (low high : Nat) (m : Nat) (e : Env) (w' : World) : Prop :=
  ∃ j, m = M.length - j ∧ 1 ≤ j ∧ j ≤ M.length ∧ RdV w' ov M.length (M.map fun a => fl (canon a)) ∧ Fr [] w0 w' ∧ e 9 = ov ∧ e 14 = i64 j ∧ e 5 = fl low ∧ e 6 = fl high
theorem wb2_step {w : World} {a : Option Addr} {c : Nat} {M : List Nat} {low high : Nat} (hok : ∀ x ∈ M, x < 2 * H63) (hp : M.Pairwise fun a b => key a ≤ key b) (hL : M.length ≤ 200) {j : Nat} {e : Env} {w1 : World} (hj : j < M.length)
    (hI : WB2I w (.slice a M.length c) M low high (M.length - j) e w1) {K : KT} (hK : ∀ e' w'', WB2I w (.slice a M.length c) M low high (M.length - (j + 1)) e' w'' → K .normal e' w'') : F3B2 e w1 K := by
  obtain ⟨j', hm, hj1, hj', hr, hf, e9, e14, e5, e6⟩ := hI
  have : j' = j := by omega
  subst this
  unfold F3B2
  obtain ⟨x, hx⟩ : ∃ x, M[j']? = some x := ⟨_, List.getElem?_eq_getElem hj⟩
  obtain ⟨y, hy⟩ : ∃ y, M[j' - 1]? = some y := ⟨_, List.getElem?_eq_getElem (by omega)⟩
  have hxl := canon_lt2 (hok x (List.mem_of_getElem? hx))
  have hyl := canon_lt2 (hok y (List.mem_of_getElem? hy))
  obtain ⟨b, o, rfl, q1, q2⟩ := row_at hr hx
  obtain ⟨b', o', hbo, p1, p2⟩ := row_at hr hy
  obtain ⟨rfl, rfl⟩ : b = b' ∧ o = o' := by simpa using hbo
  have hji : (j' : Int) < M.length := by omega
  have hwj : IntKind.i64.wrap ((j' : Int) + 1) = ((j' + 1 : Nat) : Int) := wrap64 (by omega) (by omega)
  have hwm : IntKind.i64.wrap ((j' : Int) - 1) = ((j' - 1 : Nat) : Int) := by rw [wrap64 (by omega) (by omega)]; omega
  have hjm : (((j' - 1 : Nat) : Int)) < M.length := by omega
  have hle : decide (key (canon x) < key (canon y)) = false := by
    obtain ⟨h1, e1⟩ := List.getElem?_eq_some_iff.1 hy
    obtain ⟨h2, e2⟩ := List.getElem?_eq_some_iff.1 hx
    have := List.pairwise_iff_getElem.1 hp (j' - 1) j' h1 h2 (by omega)
    rw [e1, e2] at this
    rw [key_canon, key_canon]
    simp; omega
  try simp (maxDischargeDepth := 8) [↓sC, sB, sM, e9, e14, hji, hj, hwm, hjm, q1, q2, p1, p2]
  refine (refLess_spec hxl hyl).call ?_
  rintro _ w2 ⟨rfl, f2⟩
  rw [hle]
  try simp (maxDischargeDepth := 8) [↓sC, sB, sM, e9, e14, hwj, -Int.natCast_add]
  have f12 : Fr [] w1 w2 := ((Fr.refl [] w1).drew).trans0 f2
  exact hK _ _ ⟨j' + 1, rfl, by omega, by omega, hr.fr0 f12, hf.trans0 f12, by simp [put_get, e9], by simp [put_get], by simp [put_get, e5], by simp [put_get, e6]⟩

set_option maxHeartbeats 2000000 in
theorem wholeBytes_law {w : World} {v : Value} {L : List Nat} (hr : RdV w v L.length (L.map fl)) (hok : ∀ x ∈ L, x < 2 * H63) : Ret P 3 #[v] w fun x w' => x = .bool true ∧ Fr [] w w' := by
  refine F3ok ?_
  unfold F3
  obtain ⟨a, c, rfl⟩ := sl_of hr
  have okq : ∀ x, x < 2 * H63 → ∀ p ∈ [qf x], okP p := by
    intro x hx p hp
    rw [List.mem_singleton] at hp
    subst hp
    exact ⟨by simp [qf, H63], ⟨by simp [qf], by simp [qf]⟩, hx⟩
  try simp (maxDischargeDepth := 8) [↓sC, sB, sM, bd_qf, bs_qf, -bf28, -bsl32]
  refine (write_spec (L := [qf 4607182418800017408]) ⟨rd_new w (flat partC [qf 4607182418800017408]) 28 (n := 1) (by unfold maxLen; omega), okq _ (by unfold H63; omega)⟩ (by rw [enc_qf]; simp [placeB])).call ?_
  rintro xb w2 ⟨hx2, f2⟩
  rw [enc_qf] at hx2
  have hc2 : pConv P 23 9 xb w2 = some (strB (placeB (key 4607182418800017408)), w2) := conv_str sliceE23 intK5 und9 (own_rd hx2)
  have hk1 : placeB (key 4607182418800017408) = [191, 240, 0, 0, 0, 0, 0, 0] := by kernel_rfl
  have hs1 : (Value.string { data := #[191, 240, 0, 0, 0, 0, 0, 0] }) = strB [191, 240, 0, 0, 0, 0, 0, 0] := rfl
  rw [hk1] at hc2
  have hne : ∀ w, pBin P .neq 9 true (strB [191, 240, 0, 0, 0, 0, 0, 0]) (strB [191, 240, 0, 0, 0, 0, 0, 0]) w = some (.bool false, w) := fun w => by rw [ne_strB]; rfl
  try simp (maxDischargeDepth := 8) [↓sC, sB, sM, hc2, hs1, hne]
  refine (max_spec (a := 4607182418800017408) (b := 4611686018427387904) (by unfold H63; omega) (by unfold H63; omega)).call ?_
  rintro _ w3 ⟨rfl, f3⟩
  have hk2 : canon (if key 4607182418800017408 < key 4611686018427387904 then 4611686018427387904 else 4607182418800017408) = 4611686018427387904 := by kernel_rfl
  have hne2 : ∀ w, pBin P .neq 25 true (fl 4611686018427387904) (fl 4611686018427387904) w = some (.bool false, w) := fun w => by rw [fne]; kernel_rfl
  rw [hk2]
  have f13 : Fr [] w w3 := ((Fr.refl [] w).nw _ _ |>.trans0 f2).trans0 f3
  try simp (maxDischargeDepth := 8) [↓sC, sB, sM, hne2]
  by_cases hL0 : L = []
  · try simp (maxDischargeDepth := 8) [↓sC, sB, sM, hL0]
    exact f13
  by_cases hL2 : 200 < L.length
  · have h200 : (200 : Int) < L.length := by omega
    try simp (maxDischargeDepth := 8) [↓sC, sB, sM, hL0, h200, hL2]
    exact f13
  have h200 : ¬ (200 : Int) < L.length := by omega
  have hpos : 0 < L.length := List.length_pos_iff.2 hL0
  have hposi : (0 : Int) < L.length := by omega
  have hr3 := hr.fr0 f13
  obtain ⟨x0, hx0⟩ : ∃ x, L[0]? = some x := ⟨_, List.getElem?_eq_getElem hpos⟩
  obtain ⟨b, o, rfl, q1, q2⟩ := row_at hr3 hx0
  have hx0l := hok x0 (List.mem_of_getElem? hx0)
  simp only [Nat.add_zero] at q1 q2
  have f14 : Fr [] w (drew w3) := f13.drew
  try simp (maxDischargeDepth := 8) [↓sC, sB, sM, hL0, h200, hL2, hposi, hpos, q1, q2]
  have hr4 : RdV w3 (sl b o L.length c) L.length (L.map fl) := hr3
  refine loopE_of (WB0I (drew w3) (sl b o L.length c) L) L.length ⟨0, .slice none 0 0, x0, x0, by omega, by omega, World.ownsRow_nil _ _ _ _, isLow_zero (List.mem_of_getElem? hx0) hx0l, isHigh_zero (List.mem_of_getElem? hx0) hx0l, Fr.refl [] _, by simp [put_get], by simp [put_get], by simp [put_get], by simp [put_get], by simp [put_get], by simp [put_get]⟩ ?_
  rintro m e w4 hI
  obtain ⟨j, av, low, high, rfl, hj, hown, hlow, hhigh, hf4, e39, e40, e41, e4, e5, e6⟩ := id hI
  by_cases hjl : j < L.length
  · exact wb0_step (rd_drew hr3) hok (by omega) hjl hI fun e' w'' hK => ⟨L.length - (j + 1), by omega, hK⟩
  have hje : j = L.length := by omega
  subst hje
  unfold F3B0
  try simp (maxDischargeDepth := 8) [↓sC, sB, sM, e39, e40, e41, e4]
  rw [List.take_length] at hown
  have htx : (L.map fun a => strB (placeB (key a))) = (L.map fun a => placeB (key a)).map strB := by rw [List.map_map]; rfl
  rw [htx] at hown
  refine (sort_spec (ss := L.map fun a => placeB (key a)) (by simpa using hown) (by simpa using hpos) (by simp; omega)).call ?_
  rintro _ w5 ⟨rfl, hown5, f5⟩
  rw [sorted_texts hok] at hown5
  have hML : (keyed L).length = L.length := (keyed_perm L).length_eq
  have hMok : ∀ x ∈ keyed L, x < 2 * H63 := fun x hx => hok x ((keyed_perm L).mem_iff.1 hx)
  have hMp := keyed_pair L
  have hmx : ((keyed L).map fun a => placeB (key a)).map strB = (keyed L).map fun a => strB (placeB (key a)) := by rw [List.map_map]; rfl
  rw [hmx, List.length_map, ← hML] at hown5
  have hlowM : ∀ x, (keyed L)[0]? = some x → key x = key low := fun x hx => keyed_low hlow hx
  have hhighM : ∀ x, (keyed L)[(keyed L).length - 1]? = some x → key x = key high := fun x hx => keyed_high hhigh (by rw [← hML]; exact hx)
  have hll := hlow.1
  have hhl := hhigh.1
  have hg5 : Fr [] w w5 := (f14.trans0 hf4).trans f5 (fun k hk => .inr (by have := (hown.lt k (by simpa using hk)).1; have := f14.size; omega))
  have hlen30 : ∀ w, pBuiltin P .len #[30] 3 [av] w = some (i64 (keyed L).length, w) := fun w => by obtain ⟨a, c, rfl⟩ := own_val hown5; exact len30
  have hM2 : (keyed L).length ≤ 200 := by omega
  have hMpos : 0 < (keyed L).length := by omega
  clear hI hown hmx htx hlow hhigh
  generalize keyed L = M at *
  try simp (maxDischargeDepth := 8) [↓sC, sB, sM, e4, hlen30]
  obtain ⟨ta, tc, rfl⟩ := own_val hown5
  have hrt := own_rd hown5
  refine loopE_of (WB1I w5 (sz w5) (.slice ta M.length tc) M low high) M.length ⟨0, .slice none 0 0, by omega, by omega, hrt, World.ownsRow_nil _ _ _ _, Nat.le_refl _, Fr.refl [] _, by simp [put_get], by simp [put_get], by simp [put_get], by simp [put_get], by simp [put_get, e5], by simp [put_get, e6]⟩ ?_
  rintro m e w6 hI
  obtain ⟨j, ov, rfl, hj, hr6, hown6, hs6, hf6, e62, e63, e64, e9, e5, e6⟩ := id hI
  by_cases hjl : j < M.length
  · exact wb1_step (Nat.le_refl _) (fun k hk => (hown5.lt k hk).2) hMok hM2 hjl hI fun e' w'' hK => ⟨M.length - (j + 1), by omega, hK⟩
  have hje : j = M.length := by omega
  subst hje
  unfold F3B1
  try simp (maxDischargeDepth := 8) [↓sC, sB, sM, e62, e63, e64]
  rw [List.take_length] at hown6
  obtain ⟨oa, oc, rfl⟩ := own_val hown6
  have hro := own_rd hown6
  refine loopE_of (WB2I w6 (.slice oa M.length oc) M low high) (M.length - 1) ⟨1, rfl, by omega, by omega, hro, Fr.refl [] _, by simp [put_get, e9], by simp [put_get], by simp [put_get, e5], by simp [put_get, e6]⟩ ?_
  rintro m e w7 hI
  obtain ⟨j, rfl, hj1, hj, hr7, hf7, e9, e14, e5, e6⟩ := id hI
  by_cases hjl : j < M.length
  · exact wb2_step hMok hMp hM2 hjl hI fun e' w'' hK => ⟨M.length - (j + 1), by omega, hK⟩
  have hje : j = M.length := by omega
  subst hje
  unfold F3B2
  obtain ⟨y0, hy0⟩ : ∃ x, M[0]? = some x := ⟨_, List.getElem?_eq_getElem hMpos⟩
  obtain ⟨y1, hy1⟩ : ∃ x, M[M.length - 1]? = some x := ⟨_, List.getElem?_eq_getElem (by omega)⟩
  obtain ⟨ob, oo, rfl, p1, p2⟩ := row_at hr7 hy0
  obtain ⟨ob', oo', hbo, p3, p4⟩ := row_at hr7 hy1
  obtain ⟨rfl, rfl⟩ : ob = ob' ∧ oo = oo' := by simpa using hbo
  simp only [Nat.add_zero] at p1 p2
  have hMi : (0 : Int) < M.length := by omega
  have hwm : IntKind.i64.wrap ((M.length : Int) - 1) = ((M.length - 1 : Nat) : Int) := by rw [wrap64 (by omega) (by omega)]; omega
  have hjm : (((M.length - 1 : Nat) : Int)) < M.length := by omega
  try simp (maxDischargeDepth := 8) [↓sC, sB, sM, e9, e14, e5, e6, hMi, hMpos, hwm, hjm, p1, p2, p3, p4]
  refine (same_spec (canon_lt2 (hMok y0 (List.mem_of_getElem? hy0))) hll).call ?_
  rintro _ w8 ⟨rfl, f8⟩
  have k0 : decide (key (canon y0) = key low) = true := by rw [key_canon]; simpa using hlowM y0 hy0
  have k1 : decide (key (canon y1) = key high) = true := by rw [key_canon]; simpa using hhighM y1 hy1
  have p3' : oo + (M.length - 1) < (mm w8 ob).length := by rw [f8.mm (lt_of_mm p3) (by simp)]; exact p3
  have p4' : gt (mm w8 ob) (oo + (M.length - 1)) = fl (canon y1) := by rw [f8.mm (lt_of_mm p3) (by simp)]; exact p4
  rw [k0]
  try simp (maxDischargeDepth := 8) [↓sC, sB, sM, e9, e6, hMi, hMpos, hwm, hjm, p3', p4']
  refine (same_spec (canon_lt2 (hMok y1 (List.mem_of_getElem? hy1))) hhl).call ?_
  rintro _ w9 ⟨rfl, f9⟩
  rw [k1]
  try simp (maxDischargeDepth := 8) [↓sC, sB, sM]
  exact (((hg5.trans0 hf6).trans0 hf7).trans0 f8).trans0 f9
end Go.Proofs.Ytieejbkbdfccdaa
