/- What the functions of package seal, and of its document's answer, compute. -/
import Derived.Test.YtieejbkbdfccdaaGreatSim
import Derived.Test.YtieejbkbdfccdaaGreatTypes
import Derived.Test.YtieejbkbdfccdaaGreatKH
import Derived.Test.YtieejbkbdfccdaaGreatPrims3
set_option linter.unusedVariables false
set_option linter.unusedSimpArgs false
namespace Go.Proofs.YtieejbkbdfccdaaGreat
open Go
abbrev zeros : List UInt8 := zb 64
def sealOf (l : List UInt8) : List UInt8 := 1 :: UInt8.ofNat l.length :: (l ++ List.replicate (61 - l.length) 0 ++ [1])
theorem sealOf_length {l : List UInt8} (h : l.length ≤ 61) : (sealOf l).length = 64 := by simp [sealOf]; omega
theorem u8_one : Value.int IntKind.u8 1 = bv 1 := rfl
theorem u8_len {l : List UInt8} (h : l.length ≤ 61) : Value.int IntKind.u8 (IntKind.u8.wrap (l.length : Int)) = bv (UInt8.ofNat l.length) := by
  simp only [bv, IntKind.wrap, IntKind.bits, IntKind.signed]
  simp
theorem gb_sealOf {l : List UInt8} (h : l.length ≤ 61) (i : Nat) : gb (sealOf l) i = if i = 0 then 1 else if i = 1 then UInt8.ofNat l.length else if i < 2 + l.length then gb l (i - 2) else if i = 63 then 1 else 0 := by
  unfold gb sealOf
  simp only [List.getD_eq_getElem?_getD, List.getElem?_append, List.length_append, List.getElem?_cons, List.getElem?_replicate, List.length_replicate, List.length_cons, List.length_nil]
  grind
theorem sealOf_eq {l : List UInt8} (h : l.length ≤ 61) :
    splice (bs ((((zb 64).set 0 1).set 1 (UInt8.ofNat l.length)).set 63 1)) 2 (bs l) = bs (sealOf l) := by
  simp only [splice, bs_take, bs_drop, ← bs_append, bs_length]
  congr 1
  apply List.ext_getElem?
  intro i
  simp only [sealOf, zb, List.getElem?_append, List.length_append, List.length_take, List.length_set, List.length_replicate, List.getElem?_take, List.getElem?_drop, List.getElem?_set, List.getElem?_cons, List.getElem?_replicate]
  grind
theorem seal_spec {w : World} {a0 : Value} {l : List UInt8} (h : RdV w a0 l.length (bs l)) :
    Ret P 31 #[a0] w fun v w' => v = .tuple #[sec (if l.length ≤ 61 then sealOf l else zeros), i64 (if l.length ≤ 61 then 0 else 3)] ∧ Fr [] w w' := by
  refine F31ok ?_
  unfold F31
  obtain ⟨a, c, rfl⟩ := sl_of h
  by_cases hl : l.length ≤ 61
  · have hb : decide ((61 : Int) < (l.length : Int)) = false := by simp; omega
    simp (maxDischargeDepth := 8) [↓sC, sB, hb, sM, u8_one, u8_len hl, bs_set]
    have hfr : Fr [] w (wr (nw (nw w (bs (zb 64)) 90) (bs (zb 64)) 90) (sz w + 1) (bs ((((zb 64).set 0 1).set 1 (UInt8.ofNat l.length)).set 63 1))) :=
      (((Fr.refl [] w).nw _ _).nw _ _).wr (.inr (by omega)) _
    rw [copy_bytes (cs := bs l) (m := l.length) sliceE72 tyOk5 cellsOf5 (h.fr0 hfr) (by simp) bs_one (by simp [sM]) (by simp [sM])]
    have hmin : min l.length 62 = l.length := by omega
    simp (maxDischargeDepth := 8) [↓sC, sB, sM, hmin]
    rw [show List.take l.length (bs l) = bs l by rw [List.take_of_length_le (by simp)], sealOf_eq hl]
    simp (maxDischargeDepth := 8) [↓sC, sB, sM, hl, List.take_of_length_le, sealOf_length hl]
  · have hb : decide ((61 : Int) < (l.length : Int)) = true := by simp; omega
    simp (maxDischargeDepth := 8) [↓sC, sB, hb, sM, hl, List.take_of_length_le]
theorem blank_spec {w : World} {s : List UInt8} (hs : s.length = 64) :
    Ret P 56 #[sec s] w fun v w' => v = .bool (decide (s = zeros)) ∧ Fr [] w w' := by
  refine F56ok ?_
  unfold F56
  simp (maxDischargeDepth := 8) [↓sC, sB, sM, hs, List.take_of_length_le]
/-- Is it a whole sector? -/
def pay (s : List UInt8) : List UInt8 := (s.drop 2).take (gb s 1).toNat
def isWhole (s : List UInt8) : Prop := gb s 0 = 1 ∧ gb s 63 = 1 ∧ (gb s 1).toNat ≤ 61 ∧ ∀ i, 2 + (gb s 1).toNat ≤ i → i < 63 → gb s i = 0
noncomputable instance (s : List UInt8) : Decidable (isWhole s) := Classical.propDecidable _
theorem pay_length {s : List UInt8} (hs : s.length = 64) (h : (gb s 1).toNat ≤ 61) : (pay s).length = (gb s 1).toNat := by
  simp [pay]; omega
theorem open_spec {w : World} {s : List UInt8} (hs : s.length = 64) :
    Ret P 36 #[sec s] w fun v w' => Fr [] w w' ∧ ∃ x, v = .tuple #[x, .bool (decide (isWhole s))] ∧
      (isWhole s → RdV w' x (pay s).length (bs (pay s))) ∧ (¬ isWhole s → x = .slice none 0 0) := by
  refine F36ok ?_
  unfold F36
  generalize hn : gb s 1 = n
  by_cases c0 : gb s 0 = 1
  · by_cases c63 : gb s 63 = 1
    · by_cases c1 : n.toNat ≤ 61
      · have c1' : decide ((61 : Int) < (n.toNat : Int)) = false := by simp; omega
        have hw2 : IntKind.i64.wrap (2 + (n.toNat : Int)) = 2 + n.toNat := wrap64 (by omega) (by omega)
        simp (maxDischargeDepth := 8) [↓sC, sB, sM, hs, hn, c0, c63, c1', hw2]
        rw [slB90 (by omega) (by omega) (by omega)]
        have ht : (2 + (n.toNat : Int)).toNat = 2 + n.toNat := by omega
        have h64 : ¬ (64 = 2 + n.toNat) := by omega
        simp (maxDischargeDepth := 8) [↓sC, sB, sM, hs, hn, ht, h64]
        refine loopE_of (fun m e w' => w' = nw w (bs s) 90 ∧ ∃ j : Nat, m = 61 - n.toNat - j ∧ j ≤ 61 - n.toNat ∧ (∀ i, 2 + n.toNat ≤ i → i < 2 + n.toNat + j → gb s i = 0) ∧ e 26 = i64 j ∧
          e 25 = i64 ((61 - n.toNat : Nat) : Int) ∧ e 24 = sl (sz w) (2 + n.toNat) (61 - n.toNat) (62 - n.toNat) ∧ e 1 = pt (sz w) 0 ∧ e 4 = i64 n.toNat) (61 - n.toNat) ?_ ?_
        · refine ⟨rfl, 0, by omega, by omega, fun i h1 h2 => by omega, ?_⟩
          simp [put_get]
          refine ⟨?_, ?_, ?_⟩ <;> omega
        · rintro m e w' ⟨rfl, j, rfl, hj, hz, h26, h25, h24, h1, h4⟩
          unfold F36B0
          by_cases hjn : j < 61 - n.toNat
          · have hlt : 2 + n.toNat + j < 64 := by omega
            have hwj : IntKind.i64.wrap ((j : Int) + 1) = ((j + 1 : Nat) : Int) := wrap64 (by omega) (by omega)
            by_cases hzj : gb s (2 + n.toNat + j) = 0
            · simp (maxDischargeDepth := 8) [↓sC, sB, sM, h26, h25, h24, hjn, hs, hlt, hzj, hwj, -Int.natCast_add]
              refine ⟨61 - n.toNat - (j + 1), by omega, j + 1, rfl, by omega, fun i h1 h2 => ?_, rfl, h1, h4⟩
              by_cases hij : i = 2 + n.toNat + j
              · rw [hij]; exact hzj
              · exact hz i h1 (by omega)
            · have hnw : ¬ isWhole s := fun h => hzj (h.2.2.2 _ (by rw [hn]; omega) (by omega))
              simp (maxDischargeDepth := 8) [↓sC, sB, sM, h26, h25, h24, hjn, hs, hlt, hzj, hnw]
          · have hw : isWhole s := ⟨c0, c63, hn ▸ c1, fun i h1 h2 => hz i (by rw [hn] at h1; exact h1) (by omega)⟩
            simp (maxDischargeDepth := 8) [↓sC, sB, sM, h26, h25, h24, h1, h4, hjn, hs, hw2]
            rw [slB90 (by omega) (by omega) (by omega)]
            have hpl := pay_length hs (hn ▸ c1)
            have hrd : RdV (nw (nw w (bs s) 90) [] 5) (sl (sz w) 2 n.toNat 62) n.toNat (bs (pay s)) := by
              refine .inr ⟨sz w, 2, 62, rfl, by omega, by simp [maxLen], by rw [sz_nw, sz_nw]; omega, ?_, ?_⟩
              · simp [sM, hs, hpl, hn]; omega
              · simp [sM, hpl, hn]; rw [bs_drop, bs_take, pay, hn]
            have hown : (nw (nw w (bs s) 90) [] 5).ownsRow (sz w) 5 1 (sl (sz w + 1) 0 0 0) 0 [] := by
              have := own_made (w := nw w (bs s) 90) (base := sz w) (e := 5) (size := 1) (by simp [sM])
              simpa [sM] using this
            obtain ⟨v', w', hr, ho, hg, _⟩ := append_own (P := P) (ty := 72) (sz w) sliceE72 hasZero5 cellsOf5 (by rw [zeroL5]; rfl) (by omega) hown (by simp [sM]; omega) hrd (by rw [bs_length, hpl, hn]; omega) bs_one (by simp [maxLen]; omega) (by simp; omega)
            have h2 : (2 + (n.toNat : Int)).toNat - (2 : Int).toNat = n.toNat := by omega
            simp only [h2, ↓bindV_some]
            have h3 : (if 64 = (2:Int).toNat then 0 else 0 + (2:Int).toNat * 1) = 2 := rfl
            have h4 : 64 - (2:Int).toNat = 62 := rfl
            rw [h3, h4]
            simp (maxDischargeDepth := 8) [↓sC, sB, sM, hr, hw, hn]
            refine ⟨Fr.of_grown' hg (fun k hk => (own_lt hown k hk).1) (by simp [sM]) (Nat.le_refl _), ?_⟩
            have := own_rd ho
            rw [hpl, hn]
            simpa using this
      · have c1' : decide ((61 : Int) < (n.toNat : Int)) = true := by simp; omega
        have hnw : ¬ isWhole s := fun h => c1 (hn ▸ h.2.2.1)
        simp (maxDischargeDepth := 8) [↓sC, sB, sM, hs, hn, c0, c63, c1', hnw]
    · have hnw : ¬ isWhole s := fun h => c63 h.2.1
      simp (maxDischargeDepth := 8) [↓sC, sB, sM, hs, hn, c0, c63, hnw]
  · have hnw : ¬ isWhole s := fun h => c0 h.1
    simp (maxDischargeDepth := 8) [↓sC, sB, sM, hs, hn, c0, hnw]
end Go.Proofs.YtieejbkbdfccdaaGreat

set_option linter.unusedVariables false
set_option linter.unusedSimpArgs false
namespace Go.Proofs.YtieejbkbdfccdaaGreat
open Go
theorem whole_sealOf {l : List UInt8} (h : l.length ≤ 61) : isWhole (sealOf l) ∧ pay (sealOf l) = l := by
  have h1 : gb (sealOf l) 1 = UInt8.ofNat l.length := by rw [gb_sealOf h]; simp
  have hn : (gb (sealOf l) 1).toNat = l.length := by rw [h1]; simp; omega
  refine ⟨⟨by rw [gb_sealOf h]; rfl, ?_, by omega, fun i a b => ?_⟩, ?_⟩
  · rw [gb_sealOf h]; simp; omega
  · rw [hn] at a
    rw [gb_sealOf h]
    have a1 : ¬ i = 0 := by omega
    have a2 : ¬ i = 1 := by omega
    have a3 : ¬ i < 2 + l.length := by omega
    have a4 : ¬ i = 63 := by omega
    simp [a1, a2, a3, a4]
  · rw [pay, hn]
    simp [sealOf]
end Go.Proofs.YtieejbkbdfccdaaGreat

set_option linter.unusedVariables false
set_option linter.unusedSimpArgs false
namespace Go.Proofs.YtieejbkbdfccdaaGreat
open Go
/-- A disk, as what it is. -/
structure DD where
  firm : List (List UInt8)
  pend : List (Int × List UInt8)
  left : Int
  down : Bool
  writes : Int
def wrt (p : Int × List UInt8) : List Value := i64 p.1 :: bs p.2
theorem wrt_one {p : Int × List UInt8} : ∀ u ∈ wrt p, u.oneCell' = true := by
  intro u hu
  simp only [wrt, List.mem_cons] at hu
  rcases hu with rfl | hu
  · rfl
  · exact bs_one u hu
structure WfD (D : DD) : Prop where
  secs : ∀ s ∈ D.firm, s.length = 64
  len : D.firm.length ≤ 4096
  pend : ∀ p ∈ D.pend, p.2.length = 64 ∧ 0 ≤ p.1 ∧ p.1 < D.firm.length
  many : D.pend.length ≤ 1000000
  left0 : 0 ≤ D.left
  left1 : D.left < 9223372036854775808
  wr0 : 0 ≤ D.writes
  wr1 : D.writes ≤ 4611686018427387904
/-- At block 'b' lies the disk 'D'; 'F' are all blocks that it is made of. -/
def IsD (w : World) (b : Nat) (D : DD) (F : List Nat) : Prop :=
  WfD D ∧ ∃ (fb fc : Nat) (pv : Value) (tl : List Value), mm w b = [sl fb 0 D.firm.length fc, pv, i64 D.left, .bool D.down, i64 D.writes] ∧ fz w b = false ∧
    mm w fb = flat bs D.firm ++ tl ∧ fz w fb = false ∧ D.firm.length ≤ fc ∧ fc ≤ maxLen ∧
    w.ownsRow 0 96 65 pv D.pend.length (flat wrt D.pend) ∧ b ≠ fb ∧ pv.ownBlock ≠ some b ∧ pv.ownBlock ≠ some fb ∧
    b ∈ F ∧ fb ∈ F ∧ (∀ k, pv.ownBlock = some k → k ∈ F) ∧ ∀ k ∈ F, k < sz w
theorem IsD.fr {w w' : World} {b : Nat} {D : DD} {F S : List Nat} (h : IsD w b D F) (hf : Fr S w w') (hS : ∀ k ∈ F, k ∉ S) : IsD w' b D F := by
  obtain ⟨hw, fb, fc, pv, tl, h1, h2, h3, h4, h5, h6, h7, h8, h9, h10, h11, h12, h13, h14⟩ := h
  refine ⟨hw, fb, fc, pv, tl, ?_, ?_, ?_, ?_, h5, h6, own_fr h7 hf (fun k hk => hS k (h13 k hk)), h8, h9, h10, h11, h12, h13, fun k hk => hf.lt (h14 k hk)⟩
  · rw [hf.mm (h14 b h11) (hS b h11), h1]
  · rw [hf.fz (h14 b h11) (hS b h11), h2]
  · rw [hf.mm (h14 fb h12) (hS fb h12), h3]
  · rw [hf.fz (h14 fb h12) (hS fb h12), h4]
theorem IsD.fr0 {w w' : World} {b : Nat} {D : DD} {F : List Nat} (h : IsD w b D F) (hf : Fr [] w w') : IsD w' b D F := h.fr hf (by simp)
theorem IsD.lt {w : World} {b : Nat} {D : DD} {F : List Nat} (h : IsD w b D F) : b < sz w := by
  obtain ⟨hw, fb, fc, pv, tl, h1, h2, h3, h4, h5, h6, h7, h8, h9, h10, h11, h12, h13, h14⟩ := h
  exact h14 b h11
def okE (D : DD) (at_ : Int) : Int := if D.down then 14 else if at_ < 0 ∨ (D.firm.length : Int) ≤ at_ then 1 else 0
theorem ok_spec {w : World} {b : Nat} {D : DD} {F : List Nat} {x : Int} (h : IsD w b D F) : Ret P 58 #[pt b 0, i64 x] w fun v w' => v = i64 (okE D x) ∧ Fr [] w w' := by
  refine F58ok ?_
  unfold F58
  obtain ⟨hw, fb, fc, pv, tl, h1, h2, h3, h4, h5, h6, h7, h8, h9, h10, h11, h12, h13, h14⟩ := h
  cases hd : D.down with
  | true => simp (maxDischargeDepth := 8) [↓sC, sB, sM, h1, hd, okE]
  | false =>
    by_cases hx : x < 0
    · simp (maxDischargeDepth := 8) [↓sC, sB, sM, h1, hd, okE, hx]
    · by_cases hx2 : (D.firm.length : Int) ≤ x
      · simp (maxDischargeDepth := 8) [↓sC, sB, sM, h1, hd, okE, hx, hx2]
      · simp (maxDischargeDepth := 8) [↓sC, sB, sM, h1, hd, okE, hx, hx2]
theorem down_spec {w : World} {b : Nat} {D : DD} {F : List Nat} (h : IsD w b D F) : Ret P 51 #[pt b 0] w fun v w' => v = .bool D.down ∧ Fr [] w w' := by
  refine F51ok ?_
  unfold F51
  obtain ⟨hw, fb, fc, pv, tl, h1, _⟩ := h
  simp (maxDischargeDepth := 8) [↓sC, sB, sM, h1]
theorem len_spec {w : World} {b : Nat} {D : DD} {F : List Nat} (h : IsD w b D F) : Ret P 55 #[pt b 0] w fun v w' => v = i64 D.firm.length ∧ Fr [] w w' := by
  refine F55ok ?_
  unfold F55
  obtain ⟨hw, fb, fc, pv, tl, h1, _⟩ := h
  simp (maxDischargeDepth := 8) [↓sC, sB, sM, h1]
theorem own_sl {w : World} {base e size : Nat} {v : Value} {n : Nat} {xs : List Value} (h : w.ownsRow base e size v n xs) : ∃ a c, v = .slice a n c := by
  rcases h.2 with ⟨rfl, rfl⟩ | ⟨g, cap, cur, rfl, _⟩
  · exact ⟨none, 0, rfl⟩
  · exact ⟨_, _, rfl⟩
theorem fOk108 : fieldsOk P 77 = true := by kernel_rfl
theorem fOk111 : fieldsOk P 96 = true := by kernel_rfl
theorem bd108 {w : World} {v : Value} (hv : v.cells = #[v]) : pBuild P 77 [(0, v)] w = some (.agg #[v, .slice none 0 0, i64 0, .bool false, i64 0], w) := by
  rw [pBuild_struct hasZero77 fOk108 (fun p hp => ?_)]
  · simp [offF, hv, splice]
  · simp only [List.mem_cons, List.not_mem_nil, or_false] at hp
    subst hp
    exact ⟨0, 74, field77n0, by simp [hv], by simp⟩
theorem bd111 {w : World} {x : Int} {s : List UInt8} (hs : s.length = 64) : pBuild P 96 [(0, i64 x), (1, sec s)] w = some (.agg (wrt (x, s)).toArray, w) := by
  rw [pBuild_struct hasZero96 fOk111 (fun p hp => ?_)]
  · simp [offF, splice, wrt, hs]
  · simp only [List.mem_cons, List.not_mem_nil, or_false] at hp
    rcases hp with rfl | rfl
    · exact ⟨0, 3, field96n0, by simp, by simp⟩
    · exact ⟨1, 90, field96n1, by simp [hs], by simp⟩
/-- A new disk. -/
def newD (n : Nat) : DD := ⟨List.replicate n (zb 64), [], 0, false, 0⟩
theorem flat_rep (n : Nat) : (List.replicate n (bs (zb 64))).flatten = flat bs (List.replicate n (zb 64)) := by simp [flat, List.map_replicate]
theorem wf_new {n : Nat} (h : n ≤ 4096) : WfD (newD n) := by
  refine ⟨fun s hs => ?_, by simpa [newD] using h, by simp [newD], by simp [newD], by simp [newD], by simp [newD], by simp [newD], by simp [newD]⟩
  simp only [newD, List.mem_replicate] at hs
  rw [hs.2]; simp
theorem new_spec {w : World} {n : Nat} (h1 : 1 ≤ n) (h2 : n ≤ 4096) :
    Ret P 8 #[i64 n] w fun v w' => ∃ b F, v = .tuple #[pt b 0, i64 0] ∧ IsD w' b (newD n) F ∧ Fr [] w w' ∧ ∀ k ∈ F, sz w ≤ k := by
  refine F8ok ?_
  unfold F8
  have e1 : ¬ ((n : Int) < 1) := by omega
  have e2 : ¬ ((4096 : Int) < (n : Int)) := by omega
  simp (maxDischargeDepth := 8) [↓sC, sB, sM, e1, e2]
  rw [pMake_eq sliceE74 hasZero90 tyOk90 (by rw [zeroL90, cellsOf90]; simp) (by rw [bytesOf90]; omega) (by omega), zeroL90, flat_rep]
  simp (maxDischargeDepth := 8) [↓sC, sB, sM, bd108]
  refine ⟨[sz w, sz w + 1], ?_, ?_⟩
  · refine ⟨wf_new h2, sz w, n, .slice none 0 0, [], ?_, ?_, ?_, ?_, ?_, ?_, World.ownsRow_nil _ _ _ _, by omega, by simp [Value.ownBlock], by simp [Value.ownBlock], by simp, by simp, by simp [Value.ownBlock], ?_⟩
    · simp [sM, newD]
    · simp [sM]
    · simp [sM, newD]
    · simp [sM]
    · simp [newD]
    · simp [maxLen]; omega
    · intro k hk; simp only [List.mem_cons, List.not_mem_nil, or_false] at hk; rw [sz_nw, sz_nw]; omega
  · intro k hk; simp only [List.mem_cons, List.not_mem_nil, or_false] at hk; omega
/-- What was written to a place last, if anything waits. -/
def lastW (L : List (Int × List UInt8)) (x : Int) : Option (List UInt8) := L.foldl (fun o p => if p.1 = x then some p.2 else o) none
theorem lastW_snoc (L : List (Int × List UInt8)) (p : Int × List UInt8) (x : Int) : lastW (L ++ [p]) x = if p.1 = x then some p.2 else lastW L x := by
  simp [lastW, List.foldl_append]
def readD (D : DD) (x : Int) : List UInt8 := (lastW D.pend x).getD (D.firm.getD x.toNat [])
theorem foldW_mem (x : Int) (s : List UInt8) : ∀ (L : List (Int × List UInt8)) (o : Option (List UInt8)), L.foldl (fun o p => if p.1 = x then some p.2 else o) o = some s → o = some s ∨ ∃ p ∈ L, p.1 = x ∧ p.2 = s := by
  intro L
  induction L with
  | nil => intro o h; exact .inl h
  | cons p L ih =>
    intro o h
    rcases ih _ h with h1 | ⟨q, hq, h1⟩
    · by_cases hp : p.1 = x
      · simp only [hp, if_true] at h1
        exact .inr ⟨p, List.mem_cons_self, hp, by simpa using h1⟩
      · simp only [hp, if_false] at h1
        exact .inl h1
    · exact .inr ⟨q, List.mem_cons_of_mem _ hq, h1⟩
theorem lastW_mem {L : List (Int × List UInt8)} {x : Int} {s : List UInt8} (h : lastW L x = some s) : ∃ p ∈ L, p.1 = x ∧ p.2 = s := by
  rcases foldW_mem x s L none h with h | h
  · cases h
  · exact h
theorem wrt_len {L : List (Int × List UInt8)} (h : ∀ p ∈ L, p.2.length = 64) : ∀ p ∈ L, (wrt p).length = 65 := by
  intro p hp; simp [wrt, h p hp]
theorem bs_len {L : List (List UInt8)} (h : ∀ s ∈ L, s.length = 64) : ∀ s ∈ L, (bs s).length = 64 := by
  intro s hs; simp [h s hs]
theorem readD_len {D : DD} (h : WfD D) {x : Int} (h0 : 0 ≤ x) (h1 : x < D.firm.length) : (readD D x).length = 64 := by
  unfold readD
  cases hl : lastW D.pend x with
  | some s =>
    obtain ⟨p, hp, _, rfl⟩ := lastW_mem hl
    exact (h.pend p hp).1
  | none =>
    have hx : x.toNat < D.firm.length := by omega
    simp only [Option.getD_none, List.getD_eq_getElem?_getD, List.getElem?_eq_getElem hx, Option.getD_some]
    exact h.secs _ (List.getElem_mem hx)
/-- An own row, entry by entry. -/
theorem own_at {w : World} {e n : Nat} {v : Value} {m : Nat} {α : Type} {f : α → List Value} {L : List α} (h : w.ownsRow 0 e n v m (flat f L)) (hf : ∀ x ∈ L, (f x).length = n) (hm : L.length = m) {j : Nat} {x : α} (hx : L[j]? = some x) (hn : 0 < n) :
    ∃ g c, v = sl g 0 m c ∧ v.ownBlock = some g ∧ g < sz w ∧ fz w g = false ∧ m ≤ c ∧ j * n + n ≤ (mm w g).length ∧ ((mm w g).drop (j * n)).take n = f x ∧ ∀ i, i < n → gt (mm w g) (j * n + i) = gt (f x) i := by
  have hj : j < L.length := (List.getElem?_eq_some_iff.1 hx).1
  rcases h.2 with ⟨rfl, h0⟩ | ⟨g, cap, cur, rfl, _, hg, hnc, hcm, hcs, ht⟩
  · omega
  · have hmm : mm w g = cur.toList := by simp [mm, hg]
    have hle : (j + 1) * n ≤ m * n := Nat.mul_le_mul_right _ (by omega)
    have hle2 : m * n ≤ cap * n := Nat.mul_le_mul_right _ hnc
    have h1 : (j + 1) * n = j * n + n := by rw [Nat.add_mul, Nat.one_mul]
    have hpre : ((mm w g).drop (j * n)).take n = ((flat f L).drop (j * n)).take n := by
      rw [← ht, hmm, List.drop_take, List.take_take]
      congr 1
      omega
    have hfd := flat_take_drop hf hx
    refine ⟨g, cap, rfl, rfl, (Array.getElem?_eq_some_iff.1 hg).1, by simp [fz, hg], hnc, by rw [hmm, Array.length_toList, hcs]; omega, by rw [hpre, hfd], fun i hi => ?_⟩
    have := hpre.trans hfd
    rw [← this]
    unfold gt
    simp only [List.getD_eq_getElem?_getD, List.getElem?_take, List.getElem?_drop, if_pos hi]
theorem read_spec {w : World} {b : Nat} {D : DD} {F : List Nat} {x : Int} (h : IsD w b D F) (hx0 : -9223372036854775808 ≤ x) (hx1 : x < 9223372036854775808) :
    Ret P 35 #[pt b 0, i64 x] w fun v w' => v = .tuple #[sec (if okE D x = 0 then readD D x else zb 64), i64 (okE D x)] ∧ Fr [] w w' := by
  refine F35ok ?_
  unfold F35
  have hd0 := h.fr0 ((Fr.refl [] w).nw (bs (zb 64)) 90)
  simp (maxDischargeDepth := 8) [↓sC, sB, sM]
  refine (ok_spec (x := x) hd0).call ?_
  rintro _ w1 ⟨rfl, hf1⟩
  have hd := hd0.fr0 hf1
  have hf : Fr [] w w1 := ((Fr.refl [] w).nw _ _).trans0 hf1
  have hlt : sz w < sz (nw w (bs (zb 64)) 90) := by rw [sz_nw]; omega
  have hm1 : mm w1 (sz w) = bs (zb 64) := by rw [hf1.mm hlt (by simp)]; simp [sM]
  have hz1 : fz w1 (sz w) = false := by rw [hf1.fz hlt (by simp)]; simp [sM]
  by_cases hok : okE D x = 0
  · obtain ⟨hw, fb, fc, pv, tl, h1, h2, h3, h4, h5, h6, h7, h8, h9, h10, h11, h12, h13, h14⟩ := hd
    have hrange : 0 ≤ x ∧ x < D.firm.length := by
      unfold okE at hok
      split at hok
      · omega
      · split at hok <;> omega
    obtain ⟨a, c, hpv⟩ := own_sl h7
    have hwl := wrt_len fun p hp => (hw.pend p hp).1
    have hmany := hw.many
    have hwj : ∀ j : Nat, j ≤ 1000000 → IntKind.i64.wrap ((j : Int) - 1) = (j : Int) - 1 := fun j hj => wrap64 (by omega) (by omega)
    have hne : ∀ k, k < sz w → (k = sz w) = False := fun k hk => ne_lt hk
    simp (maxDischargeDepth := 8) [↓sC, sB, sM, hok, h1, hpv, hwj _ hmany]
    refine loopE_of (fun m e w' => w' = w1 ∧ ∃ j : Nat, j = m ∧ j ≤ D.pend.length ∧ lastW D.pend x = lastW (D.pend.take j) x ∧
      e 7 = i64 ((j : Int) - 1) ∧ e 0 = pt b 0 ∧ e 1 = i64 x ∧ e 4 = pt (sz w) 0 ∧ e 6 = i64 0) D.pend.length ?_ ?_
    · refine ⟨rfl, D.pend.length, rfl, Nat.le_refl _, by rw [List.take_length], ?_⟩
      simp [put_get, argE_get]
    · rintro m e w' ⟨rfl, j, rfl, hj, hlast, e7, e0, e1, e4, e6⟩
      unfold F35B0
      by_cases hj0 : j = 0
      · subst hj0
        have hlast0 : lastW D.pend x = none := by rw [hlast]; rfl
        have hread : readD D x = D.firm.getD x.toNat [] := by unfold readD; rw [hlast0]; rfl
        have hxl : x.toNat < D.firm.length := by omega
        have hxs : D.firm[x.toNat]? = some (D.firm.getD x.toNat []) := by simp [hxl]
        have hfl := flat_length (bs_len hw.secs)
        have htd := flat_take_drop (bs_len hw.secs) hxs
        have h64 : x.toNat * 64 + 64 ≤ D.firm.length * 64 := by
          have := Nat.mul_le_mul_right 64 (show x.toNat + 1 ≤ D.firm.length by omega)
          omega
        have hlen : (readD D x).length = 64 := readD_len hw hrange.1 hrange.2
        have hcell : List.take 64 (List.drop (x.toNat * 64) (flat bs D.firm ++ tl)) = bs (readD D x) := by
          rw [List.drop_append_of_le_length (by rw [hfl]; omega), List.take_append_of_le_length (by simp [hfl]; omega), htd, hread]
        have hin : x.toNat * 64 + 64 ≤ D.firm.length * 64 + tl.length := by omega
        have hneg : ¬ ((0 : Int) ≤ -1) := by omega
        simp (maxDischargeDepth := 8) [↓sC, sB, sM, e7, e0, e1, e4, h1, hneg]
        rw [ia74 hrange.1 hrange.2]
        simp (maxDischargeDepth := 8) [↓sC, sB, sM, e7, e0, e1, e4, h1, h3, hfl, hin, hcell, hm1, hz1, hlen, hok, List.take_of_length_le, hf]
      · obtain ⟨p, hp⟩ : ∃ p, D.pend[j - 1]? = some p := ⟨_, List.getElem?_eq_getElem (by omega)⟩
        obtain ⟨g, c', hv, hob, hg1, hg2, hmc, hin, htk, hgt⟩ := own_at h7 hwl rfl hp (by omega)
        have hjn : ((j : Int) - 1).toNat = j - 1 := by omega
        have hg0 := hgt 0 (by omega)
        have hp0 : gt (wrt p) 0 = i64 p.1 := rfl
        have hpl := (hw.pend p (List.mem_of_getElem? hp)).1
        have hpos : (0 : Int) ≤ (j : Int) - 1 := by omega
        have hpos2 : (1 : Int) ≤ (j : Int) := by omega
        rw [hv] at hpv
        simp only [Value.slice.injEq] at hpv
        obtain ⟨rfl, _, rfl⟩ := hpv
        subst hv
        simp (maxDischargeDepth := 8) [↓sC, sB, sM, e7, e0, e1, e4, h1, hpos2]
        rw [ia75 hpos (by omega), hjn]
        have hin0 : (j - 1) * 65 < (mm w' g).length := by omega
        rw [Nat.add_zero, hp0] at hg0
        by_cases hpx : p.1 = x
        · have hread : readD D x = p.2 := by
            unfold readD
            rw [hlast]
            have : D.pend.take j = D.pend.take (j - 1) ++ [p] := by
              have e : j = (j - 1) + 1 := by omega
              rw [e, List.take_add_one, ← e, hp]
              rfl
            rw [this, lastW_snoc, if_pos hpx]
            rfl
          have htk2 : List.take 64 (List.drop ((j - 1) * 65 + 1) (mm w' g)) = bs p.2 := by
            have e : (List.drop ((j - 1) * 65 + 1) (mm w' g)) = ((mm w' g).drop ((j - 1) * 65)).drop 1 := by rw [List.drop_drop]
            rw [e]
            have e2 : List.take 64 (((mm w' g).drop ((j - 1) * 65)).drop 1) = (((mm w' g).drop ((j - 1) * 65)).take 65).drop 1 := by rw [List.drop_take]
            rw [e2, htk]
            rfl
          have hin2 : (j - 1) * 65 + 1 + 64 ≤ (mm w' g).length := by omega
          simp (maxDischargeDepth := 8) [↓sC, sB, sM, e7, e0, e1, e4, h1, hin0, hg0, hpx, hpos2]
          rw [ia75 hpos (by omega), hjn]
          simp (maxDischargeDepth := 8) [↓sC, sB, sM, e7, e0, e1, e4, h1, hin0, hg0, hpx, hpos2, htk2, hin2, hpl, hm1, hz1, hok, hread, List.take_of_length_le, hf]
        · have hwj2 := hwj (j - 1) (by omega)
          have hcast : ((j - 1 : Nat) : Int) = (j : Int) - 1 := by omega
          rw [hcast] at hwj2
          simp (maxDischargeDepth := 8) [↓sC, sB, sM, e7, e0, e1, e4, h1, hin0, hg0, hpx, hpos2, hwj2]
          refine ⟨j - 1, by omega, by omega, ?_, ?_⟩
          · rw [hlast]
            have : D.pend.take j = D.pend.take (j - 1) ++ [p] := by
              have e : j = (j - 1) + 1 := by omega
              rw [e, List.take_add_one, ← e, hp]
              rfl
            rw [this, lastW_snoc, if_neg hpx]
          · exact ⟨by omega, e6⟩
  · have hok2 : (okE D x = 0) = False := by simp [hok]
    simp (maxDischargeDepth := 8) [↓sC, sB, sM, hok, hm1, hz1, List.take_of_length_le, hf]
/-- A write. -/
def writeD (D : DD) (x : Int) (s : List UInt8) : DD :=
  if okE D x = 0 then { D with pend := D.pend ++ [(x, s)], writes := D.writes + 1, left := if 0 < D.left then D.left - 1 else D.left, down := decide (D.left = 1) } else D
def writeE (D : DD) (x : Int) : Int := if okE D x = 0 then (if D.left = 1 then 14 else 0) else okE D x
theorem okE_zero {D : DD} {x : Int} (h : okE D x = 0) : D.down = false ∧ 0 ≤ x ∧ x < D.firm.length := by
  unfold okE at h
  cases hd : D.down with
  | true => rw [hd] at h; simp at h
  | false =>
    rw [hd] at h
    simp only [Bool.false_eq_true, if_false] at h
    refine ⟨rfl, ?_⟩
    split at h
    · omega
    · omega
theorem wf_write {D : DD} {x : Int} {s : List UInt8} (h : WfD D) (hs : s.length = 64) (hm : D.pend.length < 1000000) (hw : D.writes < 4611686018427387904) : WfD (writeD D x s) := by
  unfold writeD
  by_cases hok : okE D x = 0
  · rw [if_pos hok]
    obtain ⟨_, h0, h1⟩ := okE_zero hok
    have l0 := h.left0
    have l1 := h.left1
    have w0 := h.wr0
    refine ⟨h.secs, h.len, fun p hp => ?_, by simp; omega, by dsimp only; split <;> omega, by dsimp only; split <;> omega, by dsimp only; omega, by dsimp only; omega⟩
    simp only [List.mem_append, List.mem_cons, List.not_mem_nil, or_false] at hp
    rcases hp with hp | rfl
    · exact h.pend p hp
    · exact ⟨hs, h0, h1⟩
  · rw [if_neg hok]; exact h
theorem write_spec {w : World} {b : Nat} {D : DD} {F : List Nat} {x : Int} {s : List UInt8} (h : IsD w b D F) (hs : s.length = 64)
    (hm : D.pend.length < 1000000) (hwr : D.writes < 4611686018427387904) :
    Ret P 33 #[pt b 0, i64 x, sec s] w fun v w' => v = i64 (writeE D x) ∧ ∃ F', IsD w' b (writeD D x s) F' ∧ Fr F w w' ∧ ∀ k ∈ F', k ∈ F ∨ sz w ≤ k := by
  refine F33ok ?_
  unfold F33
  have hd0 := h.fr0 ((Fr.refl [] w).nw (bs s) 90)
  simp (maxDischargeDepth := 8) [↓sC, sB, sM]
  refine (ok_spec (x := x) hd0).call ?_
  rintro _ w1 ⟨rfl, hf1⟩
  have hd := hd0.fr0 hf1
  have hf : Fr [] w w1 := ((Fr.refl [] w).nw _ _).trans0 hf1
  have hlt : sz w < sz (nw w (bs s) 90) := by rw [sz_nw]; omega
  have hm1 : mm w1 (sz w) = bs s := by rw [hf1.mm hlt (by simp)]; simp [sM]
  by_cases hok : okE D x = 0
  · obtain ⟨hdn, hx0, hx1⟩ := okE_zero hok
    have hwf' := wf_write (x := x) (s := s) h.1 hs hm hwr
    obtain ⟨hw, fb, fc, pv, tl, h1, h2, h3, h4, h5, h6, h7, h8, h9, h10, h11, h12, h13, h14⟩ := hd
    have hblt : b < sz w := h.lt
    have hbl1 : b < sz w1 := hf.lt hblt
    have hts : List.take 64 (bs s) = bs s := List.take_of_length_le (by simp [hs])
    have hbd := fun w => bd111 (w := w) (x := x) hs
    have hwl : (wrt (x, s)).length = 65 := by simp [wrt, hs]
    have hbs : ∀ w, pBuildSlice P 75 1 [(0, Value.agg (wrt (x, s)).toArray)] w = some (sl (sz w) 0 1 1, nw w (wrt (x, s)) 96) := fun w => by
      rw [bsl75 (by omega) (by intro p hp; simp only [List.mem_cons, List.not_mem_nil, or_false] at hp; subst hp; exact ⟨by simp [hwl], by omega⟩)]
      have hdz : (bs (zb 64)).drop 64 = [] := List.drop_eq_nil_of_le (by simp)
      simp [splice, hwl, hdz]
    obtain ⟨v', w3, hap, hown, hgr, hblk⟩ := append_own2 (P := P) (w := nw (drew w1) (wrt (x, s)) 96) (ty := 75) 0 sliceE75 hasZero96 cellsOf96 (by rw [zeroL96]; simp) (by omega)
      (own_fr h7 ((Fr.refl [] w1).drew.nw (wrt (x, s)) 96) (by simp)) (Nat.zero_le _)
      (rd_new (drew w1) (wrt (x, s)) 96 (n := 1) (by simp [maxLen])) (by simp [hwl]) wrt_one (by simp [maxLen]; omega) (by simp; omega)
    simp only [sz_drew] at hap
    have hg := Fr.of_grown hgr
    have hbl2 : b < sz (nw (drew w1) (wrt (x, s)) 96) := by rw [sz_nw, sz_drew]; omega
    have hnb : b ∉ pv.ownBlock.toList := by cases hpb : pv.ownBlock with
      | none => simp
      | some k => simp; rintro rfl; exact h9 hpb
    have hm3 : mm w3 b = [sl fb 0 D.firm.length fc, pv, i64 D.left, .bool D.down, i64 D.writes] := by
      rw [hg.mm hbl2 hnb, mm_nw, if_neg (by rw [sz_drew]; omega), mm_drew, h1]
    have hz3 : fz w3 b = false := by rw [hg.fz hbl2 hnb, fz_nw, if_neg (by rw [sz_drew]; omega), fz_drew, h2]
    have hv1 : v'.oneCell' = true := by obtain ⟨a, c, rfl⟩ := own_sl hown; rfl
    have hw1 : IntKind.i64.wrap (D.writes + 1) = D.writes + 1 := by have := hw.wr0; exact wrap64 (by omega) (by omega)
    have hneb := ne_lt hbl1
    have hl0 := hw.left0
    have hl1 := hw.left1
    have hfrF : Fr F w w3 := by
      refine ((hf.mono (T := F) (by simp)).drew.nw _ _).trans hg fun k hk => ?_
      cases hpb : pv.ownBlock with
      | none => simp [hpb] at hk
      | some k' => simp [hpb] at hk; subst hk; exact .inl (h13 _ hpb)
    have hfb1 : fb < sz w1 := h14 fb h12
    have hfb2 : fb < sz (nw (drew w1) (wrt (x, s)) 96) := by rw [sz_nw, sz_drew]; omega
    have hnfb : fb ∉ pv.ownBlock.toList := by cases hpb : pv.ownBlock with
      | none => simp
      | some k => simp; rintro rfl; exact h10 hpb
    have hm3f : mm w3 fb = flat bs D.firm ++ tl := by rw [hg.mm hfb2 hnfb, mm_nw, if_neg (by rw [sz_drew]; omega), mm_drew, h3]
    have hz3f : fz w3 fb = false := by rw [hg.fz hfb2 hnfb, fz_nw, if_neg (by rw [sz_drew]; omega), fz_drew, h4]
    have hszd : sz (nw (drew w1) (wrt (x, s)) 96) = sz w1 + 1 := by rw [sz_nw, sz_drew]
    have hFnew : ∀ k ∈ F, k < sz w := fun k hk => by obtain ⟨_, _, _, _, _, _, _, _, _, _, _, _, _, _, _, _, _, _, h14'⟩ := h; exact h14' k hk
    have hv'n : v'.ownBlock ≠ some b ∧ v'.ownBlock ≠ some fb ∧ ∀ k, v'.ownBlock = some k → k ∈ F ++ [sz w1 + 1] := by
      rcases hblk with he | he
      · rw [he]; exact ⟨h9, h10, fun k hk => by simp [h13 k hk]⟩
      · rw [he, hszd]
        refine ⟨by simp; omega, by simp; omega, fun k hk => by simp at hk; simp [hk]⟩
    have hsz3 : sz w1 + 1 < sz w3 ∨ v'.ownBlock = pv.ownBlock := by
      rcases hblk with he | he
      · exact .inr he
      · left
        have := (own_lt hown _ he).2
        rw [hszd] at this
        omega
    have fin : ∀ (lf : Int) (dn : Bool), writeD D x s = { D with pend := D.pend ++ [(x, s)], writes := D.writes + 1, left := lf, down := dn } →
        ∃ F', IsD (wr w3 b [sl fb 0 D.firm.length fc, v', i64 lf, .bool dn, i64 (D.writes + 1)]) b (writeD D x s) F' ∧
          Fr F w (wr w3 b [sl fb 0 D.firm.length fc, v', i64 lf, .bool dn, i64 (D.writes + 1)]) ∧ ∀ k ∈ F', k ∈ F ∨ sz w ≤ k := by
      intro lf dn hD
      have hbF := hFnew b h11
      have hFr2 : Fr F w (wr w3 b [sl fb 0 D.firm.length fc, v', i64 lf, .bool dn, i64 (D.writes + 1)]) := hfrF.wr (.inl h11) _
      have hown2 : (wr w3 b [sl fb 0 D.firm.length fc, v', i64 lf, .bool dn, i64 (D.writes + 1)]).ownsRow 0 96 65 v' (D.pend.length + 1) (flat wrt D.pend ++ wrt (x, s)) :=
        own_fr hown ((Fr.refl [b] w3).wr (.inl (by simp)) _) (fun k hk => by simp; rintro rfl; exact hv'n.1 hk)
      refine ⟨F ++ v'.ownBlock.toList, ?_, hFr2, fun k hk => ?_⟩
      · refine ⟨hwf', fb, fc, v', tl, ?_, by rw [fz_wr]; exact hz3, ?_, by rw [fz_wr]; exact hz3f, ?_, h6, ?_, h8, hv'n.1, hv'n.2.1, by simp [h11], by simp [h12], fun k hk => by simp [hk], fun k hk => ?_⟩
        · rw [mm_wr_same hz3, hD]
        · rw [mm_wr_ne (fun e => h8 e.symm), hD]; exact hm3f
        · rw [hD]; exact h5
        · rw [hD]; simp only [List.length_append, List.length_singleton, flat_append, flat_one]; exact hown2
        · rw [sz_wr]
          simp only [List.mem_append, Option.mem_toList, Option.mem_def] at hk
          rcases hk with hk | hk
          · exact hfrF.lt (hFnew k hk)
          · exact (own_lt hown k hk).2
      · simp only [List.mem_append, Option.mem_toList, Option.mem_def] at hk
        rcases hk with hk | hk
        · exact .inl hk
        · have := hv'n.2.2 k hk
          simp only [List.mem_append, List.mem_cons, List.not_mem_nil, or_false] at this
          rcases this with h | h
          · exact .inl h
          · right; have := hf.size; omega
    by_cases hlp : 0 < D.left
    · have hw2 : IntKind.i64.wrap (D.left - 1) = D.left - 1 := wrap64 (by omega) (by omega)
      by_cases hl1' : D.left = 1
      · have hE : writeE D x = 14 := by unfold writeE; rw [if_pos hok, if_pos hl1']
        have hD := fin 0 true (by unfold writeD; rw [if_pos hok]; simp [hl1'])
        have hw0 : IntKind.i64.wrap 0 = 0 := by decide
        simp (maxDischargeDepth := 8) [↓sC, sB, sM, hok, h1, hm1, hs, hts, hbd, hbs, hneb, hap, hm3, hz3, hv1, hw1, hl1', hw0, hE]
        exact hD
      · have hE : writeE D x = 0 := by unfold writeE; rw [if_pos hok, if_neg hl1']
        have hl2 : ¬ (D.left - 1 = 0) := by omega
        have hD := fin (D.left - 1) false (by unfold writeD; rw [if_pos hok]; simp [hl1', hlp])
        simp (maxDischargeDepth := 8) [↓sC, sB, sM, hok, h1, hm1, hs, hts, hbd, hbs, hneb, hap, hm3, hz3, hv1, hw1, hw2, hlp, hl2, hE]
        exact hD
    · have hl1' : ¬ D.left = 1 := by omega
      have hE : writeE D x = 0 := by unfold writeE; rw [if_pos hok, if_neg hl1']
      have hD := fin D.left D.down (by unfold writeD; rw [if_pos hok]; simp [hl1', hlp, hdn])
      rw [hdn] at hD
      simp (maxDischargeDepth := 8) [↓sC, sB, sM, hok, h1, hm1, hs, hts, hbd, hbs, hneb, hap, hm3, hz3, hv1, hw1, hlp, hE, hdn]
      exact hD
  · have he : writeE D x = okE D x := by unfold writeE; rw [if_neg hok]
    have hD : writeD D x s = D := by unfold writeD; rw [if_neg hok]
    simp (maxDischargeDepth := 8) [↓sC, sB, sM, hok, he, hD]
    exact ⟨F, hd, hf.mono (by simp), fun k hk => .inl hk⟩
/-- All that waits is for good. -/
def syncF (f : List (List UInt8)) (L : List (Int × List UInt8)) : List (List UInt8) := L.foldl (fun f p => f.set p.1.toNat p.2) f
def syncD (D : DD) : DD := if D.down then D else { D with firm := syncF D.firm D.pend, pend := [] }
theorem syncF_length (f : List (List UInt8)) (L : List (Int × List UInt8)) : (syncF f L).length = f.length := by
  induction L generalizing f with
  | nil => rfl
  | cons p L ih => simp only [syncF, List.foldl_cons] at ih ⊢; rw [ih]; simp
theorem syncF_secs {f : List (List UInt8)} {L : List (Int × List UInt8)} (hf : ∀ s ∈ f, s.length = 64) (hL : ∀ p ∈ L, p.2.length = 64) : ∀ s ∈ syncF f L, s.length = 64 := by
  induction L generalizing f with
  | nil => exact hf
  | cons p L ih =>
    refine ih (fun s hs => ?_) (fun q hq => hL q (List.mem_cons_of_mem _ hq))
    rcases List.mem_or_eq_of_mem_set hs with h | h
    · exact hf s h
    · rw [h]; exact hL p List.mem_cons_self
theorem syncF_snoc (f : List (List UInt8)) (L : List (Int × List UInt8)) (p : Int × List UInt8) : syncF f (L ++ [p]) = (syncF f L).set p.1.toNat p.2 := by
  simp [syncF, List.foldl_append]
theorem wf_sync {D : DD} (h : WfD D) : WfD (syncD D) := by
  unfold syncD
  by_cases hd : D.down = true
  · rw [if_pos hd]; exact h
  · rw [if_neg hd]
    exact ⟨syncF_secs h.secs fun p hp => (h.pend p hp).1, by rw [syncF_length]; exact h.len, by simp, by simp, h.left0, h.left1, h.wr0, h.wr1⟩
theorem sync_spec {w : World} {b : Nat} {D : DD} {F : List Nat} (h : IsD w b D F) :
    Ret P 34 #[pt b 0] w fun v w' => v = i64 (if D.down then 14 else 0) ∧ IsD w' b (syncD D) F ∧ Fr F w w' := by
  refine F34ok ?_
  unfold F34
  have hwf := wf_sync h.1
  have hh := h
  obtain ⟨hw, fb, fc, pv, tl, h1, h2, h3, h4, h5, h6, h7, h8, h9, h10, h11, h12, h13, h14⟩ := h
  cases hd : D.down with
  | true =>
    have hs : syncD D = D := by unfold syncD; rw [if_pos hd]
    simp (maxDischargeDepth := 8) [↓sC, sB, sM, h1, hd]
    rw [hs]
    exact hh
  | false =>
    obtain ⟨a, c, hpv⟩ := own_sl h7
    have hwl := wrt_len fun p hp => (hw.pend p hp).1
    have hmany := hw.many
    have hfl0 := flat_length (bs_len hw.secs)
    have hpn : ∀ k, pv.ownBlock = some k → k ≠ fb ∧ k < sz w := fun k hk => ⟨fun e => h10 (by rw [hk, e]), h14 k (h13 k hk)⟩
    simp (maxDischargeDepth := 8) [↓sC, sB, sM, h1, hd, hpv]
    rw [← hpv]
    refine loopE_of (fun m e w' => ∃ j : Nat, m = D.pend.length - j ∧ j ≤ D.pend.length ∧ Fr [fb] w w' ∧ mm w' fb = flat bs (syncF D.firm (D.pend.take j)) ++ tl ∧ fz w' fb = false ∧
      e 14 = i64 j ∧ e 13 = i64 D.pend.length ∧ e 12 = pv ∧ e 0 = pt b 0) D.pend.length ?_ ?_
    · refine ⟨0, by omega, by omega, Fr.refl _ _, by simpa [syncF] using h3, h4, ?_⟩
      simp [put_get, argE_get]
    · rintro m e w' ⟨j, rfl, hj, hf, hmf, hzf, e14, e13, e12, e0⟩
      unfold F34B0
      have hbn : b ∉ [fb] := by simp; exact h8
      have hblt : b < sz w := h14 b h11
      have hmb : mm w' b = [sl fb 0 D.firm.length fc, pv, i64 D.left, .bool D.down, i64 D.writes] := by rw [hf.mm hblt hbn, h1]
      have hzb : fz w' b = false := by rw [hf.fz hblt hbn, h2]
      have hflt : fb < sz w := h14 fb h12
      have hown' : w'.ownsRow 0 96 65 pv D.pend.length (flat wrt D.pend) := own_fr h7 hf (fun k hk => by simp; exact (hpn k hk).1)
      by_cases hjl : j < D.pend.length
      · obtain ⟨p, hp⟩ : ∃ p, D.pend[j]? = some p := ⟨_, List.getElem?_eq_getElem hjl⟩
        obtain ⟨g, c', hv, hob, hg1, hg2, hmc, hin, htk, hgt⟩ := own_at hown' hwl rfl hp (by omega)
        obtain ⟨hpl, hp0, hp1⟩ := hw.pend p (List.mem_of_getElem? hp)
        have hwj : IntKind.i64.wrap ((j : Int) + 1) = ((j + 1 : Nat) : Int) := wrap64 (by omega) (by omega)
        have hbl' := hf.lt hblt
        have hfl' := hf.lt hflt
        have hwp : (wrt p).length = 65 := hwl p (List.mem_of_getElem? hp)
        have hs1 : ∀ l : List Value, l.length = 65 → splice l 0 (wrt p) = wrt p := fun l hl => splice_full (by rw [hl, hwp])
        have hz65 : (Value.int IntKind.i64 0 :: bs (zb 64)).length = 65 := by simp
        have hg0 : gt (wrt p) 0 = i64 p.1 := rfl
        have ht1 : List.take 64 (wrt p).tail = bs p.2 := by simp [wrt, hpl, List.take_of_length_le]
        have hsec : ∀ s ∈ syncF D.firm (D.pend.take j), s.length = 64 := syncF_secs hw.secs fun q hq => (hw.pend q (List.mem_of_mem_take hq)).1
        have hfl := flat_length (bs_len hsec)
        rw [syncF_length] at hfl
        have h64 : p.1.toNat * 64 + 64 ≤ D.firm.length * 64 := by
          have := Nat.mul_le_mul_right 64 (show p.1.toNat + 1 ≤ D.firm.length by omega)
          omega
        have hlen : (mm w' fb).length = D.firm.length * 64 + tl.length := by rw [hmf, List.length_append, hfl]
        have hset : splice (mm w' fb) (p.1.toNat * 64) (bs p.2) = flat bs (syncF D.firm (D.pend.take (j + 1))) ++ tl := by
          rw [hmf, splice_append (by simp [hpl, hfl]; omega), flat_set (bs_len hsec) (by rw [syncF_length]; omega) (by simp [hpl]) rfl]
          congr 2
          rw [List.take_add_one, hp]
          simp only [Option.toList_some]
          rw [syncF_snoc]
        have hone : ∀ v ∈ wrt p, v.oneCell' = true := wrt_one
        have honeT : (∀ v, v ∈ wrt p → v.oneCell' = true) = True := by simpa using hone
        subst hv
        simp (maxDischargeDepth := 8) [↓sC, sB, sM, e14, e13, e12, e0, hjl, hin, htk, hwp, hs1, hz65, honeT, hmb, hzb, ne_lt hbl', ne_lt hfl', hg0, ht1]
        rw [ia74 hp0 hp1]
        have hin2 : p.1.toNat * 64 + 64 ≤ D.firm.length * 64 + tl.length := by omega
        simp (maxDischargeDepth := 8) [↓sC, sB, sM, e14, e13, e12, e0, hjl, hin, htk, hwp, hs1, hz65, honeT, hmb, hzb, ne_lt hbl', ne_lt hfl', hg0, ht1, hzf, hlen, hin2, hpl, hset, hwj, -Int.natCast_add]
        refine ⟨D.pend.length - (j + 1), by omega, j + 1, rfl, by omega, ?_, ?_, ?_⟩
        · exact (((hf.nw _ _).wr (.inr hf.size) _).drew).wr (.inl (by simp)) _
        · rfl
        · trivial
      · have hje : j = D.pend.length := by omega
        subst hje
        have hbS : b < sz w' := hf.lt hblt
        have hsy : syncD D = { D with firm := syncF D.firm D.pend, pend := [] } := by unfold syncD; rw [if_neg (by rw [hd]; simp)]
        rw [List.take_length] at hmf
        simp (maxDischargeDepth := 8) [↓sC, sB, sM, e14, e13, e12, e0, hmb, hzb]
        refine ⟨⟨hwf, fb, fc, .slice none 0 0, tl, ?_, by rw [fz_wr]; exact hzb, ?_, by rw [fz_wr]; exact hzf, ?_, h6, ?_, h8, by simp [Value.ownBlock], by simp [Value.ownBlock], h11, h12, by simp [Value.ownBlock], fun k hk => ?_⟩, ?_⟩
        · rw [mm_wr_same hzb, hsy]; simp [syncF_length]
        · rw [mm_wr_ne (fun e => h8 e.symm), hsy]; exact hmf
        · rw [hsy]; simp [syncF_length]; exact h5
        · rw [hsy]; exact World.ownsRow_nil _ _ _ _
        · rw [sz_wr]; exact hf.lt (h14 k hk)
        · exact (hf.mono (T := F) (fun k hk => by simp at hk; subst hk; exact .inl h12)).wr (.inl h11) _
/-- It goes down with the n-th write. -/
def breakD (D : DD) (n : Int) : DD := { D with left := max n 0 }
theorem break_spec {w : World} {b : Nat} {D : DD} {F : List Nat} {n : Int} (h : IsD w b D F) (hn : n < 9223372036854775808) :
    Ret P 11 #[pt b 0, i64 n] w fun v w' => IsD w' b (breakD D n) F ∧ Fr F w w' := by
  refine F11ok ?_
  unfold F11
  obtain ⟨hw, fb, fc, pv, tl, h1, h2, h3, h4, h5, h6, h7, h8, h9, h10, h11, h12, h13, h14⟩ := h
  have hwf : WfD (breakD D n) := ⟨hw.secs, hw.len, hw.pend, hw.many, by unfold breakD; dsimp only; omega, by unfold breakD; dsimp only; omega, hw.wr0, hw.wr1⟩
  have key : ∀ q : Int, q = (breakD D n).left → IsD (wr w b [sl fb 0 D.firm.length fc, pv, i64 q, .bool D.down, i64 D.writes]) b (breakD D n) F ∧
      Fr F w (wr w b [sl fb 0 D.firm.length fc, pv, i64 q, .bool D.down, i64 D.writes]) := by
    rintro q rfl
    refine ⟨⟨hwf, fb, fc, pv, tl, mm_wr_same h2 _, by rw [fz_wr]; exact h2, by rw [mm_wr_ne (fun e => h8 e.symm)]; exact h3, by rw [fz_wr]; exact h4, h5, h6,
      own_fr h7 ((Fr.refl [b] w).wr (.inl (by simp)) _) (fun k hk => by simp; rintro rfl; exact h9 hk), h8, h9, h10, h11, h12, h13, fun k hk => by rw [sz_wr]; exact h14 k hk⟩,
      (Fr.refl F w).wr (.inl h11) _⟩
  have := key (max n 0) rfl
  simp (maxDischargeDepth := 8) [↓sC, sB, sM, h1, h2]
  exact this
/-- So many bytes of each write are kept. -/
def clampN (kept : List Int) (i : Nat) : Nat := if i < kept.length then (min (max (kept.getD i 0) 0) 64).toNat else 0
def tear (old new : List UInt8) (n : Nat) : List UInt8 := new.take n ++ old.drop n
def crashF (kept : List Int) : List (List UInt8) → Nat → List (Int × List UInt8) → List (List UInt8)
  | f, _, [] => f
  | f, i, p :: L => crashF kept (f.set p.1.toNat (tear (f.getD p.1.toNat []) p.2 (clampN kept i))) (i + 1) L
def crashD (D : DD) (kept : List Int) : DD := { D with firm := crashF kept D.firm 0 D.pend, pend := [], left := 0, down := false }
theorem crashF_length (kept : List Int) (L : List (Int × List UInt8)) : ∀ (f : List (List UInt8)) (i : Nat), (crashF kept f i L).length = f.length := by
  induction L with
  | nil => intro f i; rfl
  | cons p L ih => intro f i; rw [crashF, ih]; simp
theorem tear_length {old new : List UInt8} {n : Nat} (h1 : old.length = 64) (h2 : new.length = 64) : (tear old new n).length = 64 := by
  simp [tear, h1, h2]; omega
theorem crashF_secs (kept : List Int) (L : List (Int × List UInt8)) : ∀ (f : List (List UInt8)) (i : Nat), (∀ s ∈ f, s.length = 64) → (∀ p ∈ L, p.2.length = 64 ∧ 0 ≤ p.1 ∧ p.1 < f.length) →
    ∀ s ∈ crashF kept f i L, s.length = 64 := by
  induction L with
  | nil => intro f i h _; exact h
  | cons p L ih =>
    intro f i h hL
    obtain ⟨hp, hp0, hp1⟩ := hL p List.mem_cons_self
    refine ih _ _ (fun s hs => ?_) (fun q hq => by rw [List.length_set]; exact hL q (List.mem_cons_of_mem _ hq))
    rcases List.mem_or_eq_of_mem_set hs with h' | h'
    · exact h s h'
    · rw [h']
      have hlt : p.1.toNat < f.length := by omega
      refine tear_length ?_ hp
      rw [List.getD_eq_getElem?_getD, List.getElem?_eq_getElem hlt]
      exact h _ (List.getElem_mem hlt)
theorem crashF_snoc (kept : List Int) (L : List (Int × List UInt8)) (p : Int × List UInt8) : ∀ (f : List (List UInt8)) (i : Nat),
    crashF kept f i (L ++ [p]) = (crashF kept f i L).set p.1.toNat (tear ((crashF kept f i L).getD p.1.toNat []) p.2 (clampN kept (i + L.length))) := by
  induction L with
  | nil => intro f i; rfl
  | cons q L ih =>
    intro f i
    simp only [List.cons_append, crashF, ih, List.length_cons]
    rw [show i + 1 + L.length = i + (L.length + 1) by omega]
theorem wf_crash {D : DD} (h : WfD D) (kept : List Int) : WfD (crashD D kept) :=
  ⟨crashF_secs kept _ _ _ h.secs fun p hp => h.pend p hp, by unfold crashD; dsimp only; rw [crashF_length]; exact h.len, by simp [crashD], by simp [crashD], by simp [crashD], by simp [crashD], h.wr0, h.wr1⟩
theorem crash_spec {w : World} {b : Nat} {D : DD} {F : List Nat} {kv : Value} {kept : List Int} (h : IsD w b D F) (hk : RdV w kv kept.length (kept.map (Value.int .i64)))
    (hkF : ∀ k, kv.ownBlock = some k → k ∈ F → kept.length = 0) :
    Ret P 12 #[pt b 0, kv] w fun v w' => IsD w' b (crashD D kept) F ∧ Fr F w w' := by
  refine F12ok ?_
  unfold F12
  have hwf := wf_crash h.1 kept
  obtain ⟨hw, fb, fc, pv, tl, h1, h2, h3, h4, h5, h6, h7, h8, h9, h10, h11, h12, h13, h14⟩ := h
  obtain ⟨a, c, hpv⟩ := own_sl h7
  obtain ⟨ka, kc, hkv⟩ : ∃ a c, kv = .slice a kept.length c := by
    rcases hk with ⟨a, c, rfl, hz, _⟩ | ⟨b, o, c, rfl, _⟩
    · exact ⟨a, c, by rw [hz]⟩
    · exact ⟨_, _, rfl⟩
  have hwl := wrt_len fun p hp => (hw.pend p hp).1
  have hmany := hw.many
  have hfl0 := flat_length (bs_len hw.secs)
  have hpn : ∀ k, pv.ownBlock = some k → k ≠ fb ∧ k < sz w := fun k hk => ⟨fun e => h10 (by rw [hk, e]), h14 k (h13 k hk)⟩
  simp (maxDischargeDepth := 8) [↓sC, sB, sM, h1, hpv]
  rw [← hpv]
  refine loopE_of (fun m e w' => ∃ j : Nat, m = D.pend.length - j ∧ j ≤ D.pend.length ∧ Fr [fb] w w' ∧ mm w' fb = flat bs (crashF kept D.firm 0 (D.pend.take j)) ++ tl ∧ fz w' fb = false ∧
    e 12 = i64 j ∧ e 11 = i64 D.pend.length ∧ e 10 = pv ∧ e 0 = pt b 0 ∧ e 1 = kv) D.pend.length ?_ ?_
  · refine ⟨0, by omega, by omega, Fr.refl _ _, by simpa [crashF] using h3, h4, ?_⟩
    simp [put_get, argE_get]
  · rintro m e w' ⟨j, rfl, hj, hf, hmf, hzf, e12, e11, e10, e0, e1⟩
    unfold F12B0
    have hbn : b ∉ [fb] := by simp; exact h8
    have hblt : b < sz w := h14 b h11
    have hmb : mm w' b = [sl fb 0 D.firm.length fc, pv, i64 D.left, .bool D.down, i64 D.writes] := by rw [hf.mm hblt hbn, h1]
    have hzb : fz w' b = false := by rw [hf.fz hblt hbn, h2]
    have hflt : fb < sz w := h14 fb h12
    have hown' : w'.ownsRow 0 96 65 pv D.pend.length (flat wrt D.pend) := own_fr h7 hf (fun k hk => by simp; exact (hpn k hk).1)
    by_cases hjl : j < D.pend.length
    · obtain ⟨p, hp⟩ : ∃ p, D.pend[j]? = some p := ⟨_, List.getElem?_eq_getElem hjl⟩
      obtain ⟨g, c', hv, hob, hg1, hg2, hmc, hin, htk, hgt⟩ := own_at hown' hwl rfl hp (by omega)
      obtain ⟨hpl, hp0, hp1⟩ := hw.pend p (List.mem_of_getElem? hp)
      have hwj : IntKind.i64.wrap ((j : Int) + 1) = ((j + 1 : Nat) : Int) := wrap64 (by omega) (by omega)
      have hbl' := hf.lt hblt
      have hfl' := hf.lt hflt
      have hwp : (wrt p).length = 65 := hwl p (List.mem_of_getElem? hp)
      have hs1 : ∀ l : List Value, l.length = 65 → splice l 0 (wrt p) = wrt p := fun l hl => splice_full (by rw [hl, hwp])
      have hz65 : (Value.int IntKind.i64 0 :: bs (zb 64)).length = 65 := by simp
      have hg0 : gt (wrt p) 0 = i64 p.1 := rfl
      have hone : ∀ v ∈ wrt p, v.oneCell' = true := wrt_one
      have honeT : (∀ v, v ∈ wrt p → v.oneCell' = true) = True := by simpa using hone
      subst hv
      have ht1 : List.take 64 (wrt p).tail = bs p.2 := by simp [wrt, hpl, List.take_of_length_le]
      have hsec : ∀ s ∈ crashF kept D.firm 0 (D.pend.take j), s.length = 64 := crashF_secs kept _ _ _ hw.secs fun q hq => hw.pend q (List.mem_of_mem_take hq)
      have hfl := flat_length (bs_len hsec)
      rw [crashF_length] at hfl
      have h64 : p.1.toNat * 64 + 64 ≤ D.firm.length * 64 := by
        have := Nat.mul_le_mul_right 64 (show p.1.toNat + 1 ≤ D.firm.length by omega)
        omega
      have hlen : (mm w' fb).length = D.firm.length * 64 + tl.length := by rw [hmf, List.length_append, hfl]
      have hcl64 : clampN kept j ≤ 64 := by unfold clampN; split <;> omega
      have hold : (crashF kept D.firm 0 (D.pend.take j))[p.1.toNat]? = some ((crashF kept D.firm 0 (D.pend.take j)).getD p.1.toNat []) := by
        have : p.1.toNat < (crashF kept D.firm 0 (D.pend.take j)).length := by rw [crashF_length]; omega
        rw [List.getD_eq_getElem?_getD, List.getElem?_eq_getElem this]; rfl
      have hold64 : ((crashF kept D.firm 0 (D.pend.take j)).getD p.1.toNat []).length = 64 := hsec _ (List.mem_of_getElem? hold)
      have hset : splice (mm w' fb) (p.1.toNat * 64) ((bs p.2).take (clampN kept j)) = flat bs (crashF kept D.firm 0 (D.pend.take (j + 1))) ++ tl := by
        have hsp : splice (flat bs (crashF kept D.firm 0 (D.pend.take j))) (p.1.toNat * 64) ((bs p.2).take (clampN kept j)) =
            splice (flat bs (crashF kept D.firm 0 (D.pend.take j))) (p.1.toNat * 64) (bs (tear ((crashF kept D.firm 0 (D.pend.take j)).getD p.1.toNat []) p.2 (clampN kept j))) := by
          have htd := flat_take_drop (bs_len hsec) hold
          have hn1 : ((bs p.2).take (clampN kept j)).length = clampN kept j := by simp [hpl]; omega
          have hn2 : (bs (tear ((crashF kept D.firm 0 (D.pend.take j)).getD p.1.toNat []) p.2 (clampN kept j))).length = 64 := by rw [bs_length, tear_length hold64 hpl]
          have e1 : (bs (List.take (clampN kept j) p.2)).length = clampN kept j := by rw [← bs_take]; exact hn1
          rw [tear] at hn2 ⊢
          simp only [splice, hn2, bs_take, e1]
          simp only [bs_append, List.append_assoc]
          congr 2
          have hd2 : List.drop (p.1.toNat * 64 + clampN kept j) (flat bs (crashF kept D.firm 0 (D.pend.take j))) =
              List.drop (clampN kept j) (List.drop (p.1.toNat * 64) (flat bs (crashF kept D.firm 0 (D.pend.take j)))) := by rw [List.drop_drop]
          rw [hd2]
          have hsplit : List.drop (p.1.toNat * 64) (flat bs (crashF kept D.firm 0 (D.pend.take j))) =
              bs ((crashF kept D.firm 0 (D.pend.take j)).getD p.1.toNat []) ++ List.drop (p.1.toNat * 64 + 64) (flat bs (crashF kept D.firm 0 (D.pend.take j))) := by
            rw [← htd, ← List.drop_drop, List.take_append_drop]
          rw [hsplit, List.drop_append_of_le_length (by rw [bs_length, hold64]; exact hcl64), bs_drop]
        rw [hmf, splice_append (by simp [hpl, hfl]; omega), hsp, flat_set (bs_len hsec) (by rw [crashF_length]; omega) (by rw [bs_length, tear_length hold64 hpl]) rfl]
        congr 2
        rw [List.take_add_one, hp]
        simp only [Option.toList_some]
        rw [crashF_snoc]
        simp only [List.length_take, Nat.zero_add]
        rw [Nat.min_eq_left (by omega)]
      have hkr : RdV w' kv kept.length (kept.map (Value.int .i64)) := by
        by_cases h00 : kept.length = 0
        · have hkn : kept.map (Value.int .i64) = [] := by rw [List.eq_nil_of_length_eq_zero h00]; rfl
          exact .inl ⟨ka, kc, by rw [hkv, h00], h00, hkn⟩
        · exact hk.fr hf fun k hkk => by simp; rintro rfl; exact h00 (hkF _ hkk h12)
      have hrdc : RdV (drew (wr (nw w' (Value.int IntKind.i64 0 :: bs (zb 64)) 96) (sz w') (wrt p))) (sl (sz w') 1 (clampN kept j) 64) (clampN kept j) ((bs p.2).take (clampN kept j)) := by
        refine .inr ⟨sz w', 1, 64, rfl, hcl64, by simp [maxLen], by rw [sz_drew, sz_wr, sz_nw]; omega, ?_, ?_⟩
        · simp [sM, hwp, hpl]; omega
        · simp [sM, wrt]
          try (rw [List.take_eq_take_iff]; simp [hpl])
      have hclI : (0 : Int) ≤ (clampN kept j : Int) ∧ (clampN kept j : Int) ≤ 64 := by omega
      simp (maxDischargeDepth := 8) [↓sC, sB, sM, e12, e11, e10, e0, e1, hkv, hjl, hin, htk, hwp, hs1, hz65, honeT]
      refine condE_join (fun e2 w2 => w2 = wr (nw w' (Value.int IntKind.i64 0 :: bs (zb 64)) 96) (sz w') (wrt p) ∧ e2 12 = i64 j ∧ e2 11 = i64 D.pend.length ∧ e2 10 = sl g 0 D.pend.length c' ∧ e2 0 = pt b 0 ∧ e2 1 = kv ∧
        e2 5 = pt (sz w') 0 ∧ e2 6 = i64 (clampN kept j)) ?_ ?_ ?_
      · intro hb K' hK
        have hjk : j < kept.length := by simpa using hb
        have hx : ∃ kb ko, ka = some ⟨kb, ko, none⟩ ∧ kb < sz w' ∧ ko + j < (mm w' kb).length ∧ gt (mm w' kb) (ko + j) = i64 (kept.getD j 0) := by
          rcases hkr with ⟨_, _, _, h0, _⟩ | ⟨kb, ko, kc', hkv', k1, k2, k3, k4, k5⟩
          · omega
          · rw [hkv] at hkv'
            simp only [Value.slice.injEq] at hkv'
            obtain ⟨rfl, _, rfl⟩ := hkv'
            have hr : RdV w' (sl kb ko kept.length kc) kept.length (kept.map (Value.int .i64)) := .inr ⟨kb, ko, kc, rfl, k1, k2, k3, k4, k5⟩
            have hcell := hr.cell (j := j) (by simpa using hjk)
            refine ⟨kb, ko, rfl, k3, hcell.1, ?_⟩
            unfold gt
            rw [hcell.2]
            simp [hjk]
        obtain ⟨kb, ko, rfl, hk3, hk4, hk5⟩ := hx
        have hcl : min (max (kept.getD j 0) 0) 64 = (clampN kept j : Int) := by unfold clampN; rw [if_pos hjk]; omega
        have hj0 : (0 : Int) ≤ (j : Int) := by omega
        simp (maxDischargeDepth := 8) [↓sC, sB, sM, e12, e11, e10, e0, e1, hkv, hjk, ne_lt hk3, hk4, hk5]
        refine hK _ _ ⟨rfl, ?_⟩
        have hgj : kept.getD j 0 = kept[j] := by simp [hjk]
        rw [hgj] at hcl
        simp [put_get, argE_get, e12, e11, e10, e0, e1, hkv, hcl]
      · intro hb K' hK
        have hjk : ¬ j < kept.length := by simpa using hb
        have hc0 : clampN kept j = 0 := by unfold clampN; rw [if_neg hjk]
        refine hK _ _ ⟨rfl, ?_⟩
        simp [put_get, argE_get, e12, e11, e10, e0, e1, hkv, hc0]
      · rintro e2 w2 ⟨rfl, f12, f11, f10, f0, f1, f5, f6⟩
        simp (maxDischargeDepth := 8) [↓sC, sB, sM, f12, f11, f10, f0, f1, f5, f6, hwp, hmb, ne_lt hbl', ne_lt hfl', hg0]
        rw [ia74 hp0 hp1]
        simp (maxDischargeDepth := 8) [↓sC, sB, sM, f12, f11, f10, f0, f1, f5, f6, hwp, hmb, ne_lt hbl', ne_lt hfl', hg0, hclI, hcl64]
        have hW : mm (drew (wr (nw w' (Value.int IntKind.i64 0 :: bs (zb 64)) 96) (sz w') (wrt p))) fb = mm w' fb := by
          rw [mm_drew, mm_wr_ne (by omega), mm_nw, if_neg (by omega)]
        have hWz : fz (drew (wr (nw w' (Value.int IntKind.i64 0 :: bs (zb 64)) 96) (sz w') (wrt p))) fb = false := by
          rw [fz_drew, fz_wr, fz_nw, if_neg (by omega), hzf]
        rw [copy_bytes (cs := (bs p.2).take (clampN kept j)) (m := clampN kept j) sliceE72 tyOk5 cellsOf5 hrdc (by simp [hpl]; omega) (fun v hv => bs_one v (List.mem_of_mem_take hv)) hWz (by rw [hW, hlen]; omega)]
        rw [Nat.min_self, List.take_take, Nat.min_self, hW, hset, hwj]
        simp only [↓bindV_some]
        refine ⟨D.pend.length - (j + 1), by omega, j + 1, rfl, by omega, ?_, ?_, ?_, rfl, hkv⟩
        · exact (((hf.nw _ _).wr (.inr hf.size) _).drew).wr (.inl (by simp)) _
        · rw [mm_wr_same hWz]
        · rw [fz_wr]; exact hWz
    · have hje : j = D.pend.length := by omega
      subst hje
      rw [List.take_length] at hmf
      simp (maxDischargeDepth := 8) [↓sC, sB, sM, e12, e11, e10, e0, e1, hmb, hzb]
      refine ⟨⟨hwf, fb, fc, .slice none 0 0, tl, ?_, by rw [fz_wr]; exact hzb, ?_, by rw [fz_wr]; exact hzf, ?_, h6, ?_, h8, by simp [Value.ownBlock], by simp [Value.ownBlock], h11, h12, by simp [Value.ownBlock], fun k hk => ?_⟩, ?_⟩
      · rw [mm_wr_same hzb]; simp [crashD, crashF_length]
      · rw [mm_wr_ne (fun e => h8 e.symm)]; exact hmf
      · simp [crashD, crashF_length]; exact h5
      · exact World.ownsRow_nil _ _ _ _
      · rw [sz_wr]; exact hf.lt (h14 k hk)
      · exact (hf.mono (T := F) (fun k hk => by simp at hk; subst hk; exact .inl h12)).wr (.inl h11) _
end Go.Proofs.YtieejbkbdfccdaaGreat
