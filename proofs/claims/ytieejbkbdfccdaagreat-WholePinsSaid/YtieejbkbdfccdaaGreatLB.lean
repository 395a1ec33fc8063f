/- A reader at bytes that are good. -/
import Derived.Test.YtieejbkbdfccdaaGreatSim
import Derived.Test.YtieejbkbdfccdaaGreatKM
import Derived.Test.YtieejbkbdfccdaaGreatKO
import Derived.Test.YtieejbkbdfccdaaGreatKI
set_option linter.unusedVariables false
set_option linter.unusedSimpArgs false
namespace Go.Proofs.YtieejbkbdfccdaaGreat
open Go
theorem rd_ok {α : Type} {f : FuncId} {args : Array Value} {w : World} {b : Nat} {v : Value} {B : List UInt8} {k : Nat} {enc : α → Value} {r : α × Nat × Nat} (h : Rd f args w b v B k enc r) (h0 : r.2.2 = 0) :
    Ret P f args w fun x w' => x = enc r.1 ∧ IsRd w' b v B (k + r.2.1) ∧ Fr [b] w w' :=
  Calls.mono h fun e w' he => by
    cases e with
    | returned x => exact ⟨x, rfl, he.2⟩
    | panicked c => exact absurd h0 he.1
    | outgrown => exact he.elim
/-- A reader, and what it has left. -/
def RdAt (w : World) (b : Nat) (v : Value) (B R : List UInt8) : Prop := ∃ k, IsRd w b v B k ∧ B.drop k = R
theorem RdAt.next {w' : World} {b : Nat} {v : Value} {B E R : List UInt8} {k : Nat} (hd : B.drop k = E ++ R) (h : IsRd w' b v B (k + E.length)) : RdAt w' b v B R :=
  ⟨_, h, by rw [← List.drop_drop, hd, List.drop_left]⟩
theorem gU {w : World} {b : Nat} {v : Value} {B R : List UInt8} {n : Nat} (h : RdAt w b v B (digits n ++ R)) (hn : n < 18446744073709551616) : Ret P 82 #[pt b 0] w fun x w' => x = u64 n ∧ RdAt w' b v B R ∧ Fr [b] w w' := by
  obtain ⟨k, hk, hd⟩ := h
  have hq := num_digits0 (n := n) R hn
  have hs := rU_spec hk
  rw [hd, hq] at hs
  exact (rd_ok hs rfl).mono fun x w' ⟨h1, h2, h3⟩ => ⟨h1, .next hd h2, h3⟩
theorem gI {w : World} {b : Nat} {v : Value} {B R : List UInt8} {n : Int} (h : RdAt w b v B (digits (zig n) ++ R)) (hn : zig n < 18446744073709551616) : Ret P 87 #[pt b 0] w fun x w' => x = i64 n ∧ RdAt w' b v B R ∧ Fr [b] w w' := by
  obtain ⟨k, hk, hd⟩ := h
  have hq := num_digits0 (n := zig n) R hn
  have hs := rI_spec hk
  rw [hd, hq] at hs
  exact (rd_ok hs rfl).mono fun x w' ⟨h1, h2, h3⟩ => ⟨by rw [h1]; simp only; rw [zag_zig], .next hd h2, h3⟩
theorem gF {w : World} {b : Nat} {v : Value} {B R : List UInt8} {a : Nat} (h : RdAt w b v B (placeB (key a) ++ R)) (ha : a < 2 * H63) (hl : (placeB (key a)).length = 8) : Ret P 88 #[pt b 0] w fun x w' => x = fl (canon a) ∧ RdAt w' b v B R ∧ Fr [b] w w' := by
  obtain ⟨k, hk, hd⟩ := h
  have hq := floatM_enc (a := a) R ha
  have hs := rF_spec hk
  rw [hd, hq] at hs
  exact (rd_ok hs rfl).mono fun x w' ⟨h1, h2, h3⟩ => ⟨h1, .next hd (by rw [hl]; exact h2), h3⟩
theorem strM_enc {n : Nat} {s R : List UInt8} (hs : s.length ≤ n) (hn : n < 1000) : strM (n : Int) (digits s.length ++ (s ++ R)) = (s, (digits s.length ++ s).length, 0) := by
  have hq := num_digits0 (n := s.length) (s ++ R) (by omega)
  unfold strM
  simp only [hq]
  have e1 : ¬ (max (n : Int) 0).toNat < s.length := by omega
  have e2 : ¬ (digits s.length ++ (s ++ R)).length - (digits s.length).length < s.length := by simp only [List.length_append]; omega
  rw [if_neg (by simp), if_neg e1, if_neg e2]
  rw [List.drop_left, List.take_left, List.length_append]
theorem gS {w : World} {b n : Nat} {v : Value} {B R s : List UInt8} (h : RdAt w b v B (digits s.length ++ (s ++ R))) (hs : s.length ≤ n) (hn : n < 1000) : Ret P 63 #[pt b 0, i64 n] w fun x w' => x = strB s ∧ RdAt w' b v B R ∧ Fr [b] w w' := by
  obtain ⟨k, hk, hd⟩ := h
  have hsp := rS_spec (most := (n : Int)) hk (by omega)
  rw [hd, strM_enc hs hn] at hsp
  exact (rd_ok hsp rfl).mono fun x w' ⟨h1, h2, h3⟩ => ⟨h1, .next (E := digits s.length ++ s) (by rw [hd, List.append_assoc]) h2, h3⟩
theorem gUpto {w : World} {b m n : Nat} {v : Value} {B R : List UInt8} (h : RdAt w b v B (digits n ++ R)) (hn : n ≤ m) (hm : m ≤ 1000) : Ret P 85 #[pt b 0, i64 m] w fun x w' => x = i64 n ∧ RdAt w' b v B R ∧ Fr [b] w w' := by
  refine F85ok ?_
  unfold F85
  refine (gU h (by omega)).call ?_
  rintro _ w1 ⟨rfl, h1, f1⟩
  have e1 : IntKind.u64.wrap (m : Int) = m := wrapu (by unfold H63; omega)
  have e2 : max (m : Int) 0 = m := by omega
  have e3 : ¬ (m : Int) < n := by omega
  have e4 : ¬ m < n := by omega
  have e5 : IntKind.i64.wrap (n : Int) = n := wrap64 (by omega) (by omega)
  try simp (maxDischargeDepth := 8) [↓sC, sB, sM, e1, e2, e3, e4, e5]
  exact ⟨h1, f1⟩
theorem gEnd {w : World} {b : Nat} {v : Value} {B : List UInt8} (h : RdAt w b v B []) : Ret P 65 #[pt b 0] w fun x w' => Fr [] w w' := by
  obtain ⟨k, hk, hd⟩ := h
  have hle : B.length ≤ k := by
    have := congrArg List.length hd
    rw [List.length_drop, List.length_nil] at this
    omega
  exact Calls.mono (end_spec hk) fun e w' he => by
    cases e with
    | returned x => exact ⟨x, rfl, he.2⟩
    | panicked c => exact absurd he.1 (by omega)
    | outgrown => exact he.elim
end Go.Proofs.YtieejbkbdfccdaaGreat

set_option linter.unusedVariables false
set_option linter.unusedSimpArgs false
namespace Go.Proofs.YtieejbkbdfccdaaGreat
open Go
theorem RdAt.fr {w w' : World} {b : Nat} {v : Value} {B R : List UInt8} {S : List Nat} (h : RdAt w b v B R) (hf : Fr S w w') (hb : b ∉ S) (hv : ∀ k, v.ownBlock = some k → k ∉ S) : RdAt w' b v B R := by
  obtain ⟨k, hk, hd⟩ := h
  exact ⟨k, ⟨by rw [hf.mm (lt_of_fz hk.fz) hb, hk.cell], by rw [hf.fz (lt_of_fz hk.fz) hb, hk.fz], hk.rd.fr hf hv, hk.le, hk.ne⟩, hd⟩
theorem RdAt.lt {w : World} {b : Nat} {v : Value} {B R : List UInt8} (h : RdAt w b v B R) : b < sz w := by
  obtain ⟨k, hk, _⟩ := h
  exact lt_of_fz hk.fz
theorem real_zero {a : Nat} (ha : a < 2 * H63) (hk : key a = key 0) (hc : a = canon a) : a = 0 := by
  rw [hc, ← key_back ha, hk, key_back (by unfold H63; omega)]
  decide
/-- What Take leaves: the record, and the reader behind it. -/
def TkR (w : World) (b : Nat) (v : Value) (B R : List UInt8) (r : RecP) (x : Value) (w' : World) : Prop :=
  ∃ (a : Option Addr) (c : Nat), x = .agg (rcV r (.slice a r.list.length c)).toArray ∧ IsRec w' (.slice a r.list.length c) r ∧ RdAt w' b v B R ∧ Fr [b] w w' ∧ ∀ k, (Value.slice a r.list.length c).ownBlock = some k → sz w < k
theorem enc_uP (n : Nat) : encP (uP n) = digits n := rfl
theorem enc_sP (s : List UInt8) : encP (sP s) = digits s.length ++ s := rfl
theorem enc_iP (n : Int) : encP (iP n) = digits (zig n) := rfl
theorem enc_fP (a : Nat) : encP (fP a) = placeB (key a) := rfl
structure TkS (w : World) (b sb : Nat) (v : Value) (B R : List UInt8) (k : Int) (r : RecP) (lv : Value) (w' : World) : Prop where
  m : mm w' (sz w + 1) = rcV r lv
  z : fz w' (sz w + 1) = false
  m0 : mm w' (sz w) = rcV rz (.slice none 0 0)
  z0 : fz w' (sz w) = false
  s : mm w' sb = shapeV k
  sl : sb < sz w'
  rd : RdAt w' b v B R
  fr : Fr [b] w w'
theorem TkS.fr0 {w w' w2 : World} {b sb : Nat} {v : Value} {B R : List UInt8} {k : Int} {r : RecP} {lv : Value} (h : TkS w b sb v B R k r lv w') (hf : Fr [] w' w2) : TkS w b sb v B R k r lv w2 :=
  ⟨by rw [hf.mm (lt_of_fz h.z) (by simp), h.m], by rw [hf.fz (lt_of_fz h.z) (by simp), h.z], by rw [hf.mm (lt_of_fz h.z0) (by simp), h.m0], by rw [hf.fz (lt_of_fz h.z0) (by simp), h.z0], by rw [hf.mm h.sl (by simp), h.s], hf.lt h.sl, h.rd.fr hf (by simp) (by simp), h.fr.trans (hf.mono (by simp)) (fun k hk => .inl hk)⟩
theorem TkS.read {w w' w2 : World} {b sb : Nat} {v : Value} {B R R2 : List UInt8} {k : Int} {r : RecP} {lv : Value} (h : TkS w b sb v B R k r lv w') (hb : b < sz w) (hs : sz w ≤ sb) (hf : Fr [b] w' w2) (hr : RdAt w2 b v B R2) : TkS w b sb v B R2 k r lv w2 :=
  ⟨by rw [hf.mm (lt_of_fz h.z) (by simp; omega), h.m], by rw [hf.fz (lt_of_fz h.z) (by simp; omega), h.z], by rw [hf.mm (lt_of_fz h.z0) (by simp; omega), h.m0], by rw [hf.fz (lt_of_fz h.z0) (by simp; omega), h.z0], by rw [hf.mm h.sl (by simp; omega), h.s], hf.lt h.sl, hr, h.fr.trans hf (fun k hk => .inl hk)⟩
theorem TkS.put {w w' : World} {b sb : Nat} {v : Value} {B R : List UInt8} {k : Int} {r r2 : RecP} {lv lv2 : Value} (h : TkS w b sb v B R k r lv w') (hb : b < sz w) (hs : sz w + 1 < sb) (hv : ∀ k, v.ownBlock = some k → k < sz w) : TkS w b sb v B R k r2 lv2 (wr w' (sz w + 1) (rcV r2 lv2)) := by
  have hf : Fr [sz w + 1] w' (wr w' (sz w + 1) (rcV r2 lv2)) := (Fr.refl [sz w + 1] w').wr (.inl (by simp)) _
  exact ⟨mm_wr_same h.z _, by rw [fz_wr, h.z], by rw [mm_wr_ne (by omega), h.m0], by rw [fz_wr, h.z0], by rw [mm_wr_ne (by omega), h.s], by rw [sz_wr]; exact h.sl, h.rd.fr hf (by simp; omega) (fun k hk hm => by have := hv k hk; simp at hm; omega), h.fr.wr (.inr (by omega)) _⟩
theorem tk_done {w w7 : World} {b sb : Nat} {v : Value} {B R : List UInt8} {k : Int} {r : RecP} {a : Option Addr} {c : Nat} (T : TkS w b sb v B R k r (.slice a r.list.length c) w7) (hrec : IsRec w7 (.slice a r.list.length c) r) (hne : ∀ k, (Value.slice a r.list.length c).ownBlock = some k → sz w < k) (hb : b < sz w) (hv : ∀ k, v.ownBlock = some k → k < sz w) :
    TkR w b v B R r (.agg (rcV r (.slice a r.list.length c)).toArray) (wr w7 (sz w) (rcV r (.slice a r.list.length c))) := by
  have hf : Fr [sz w] w7 (wr w7 (sz w) (rcV r (.slice a r.list.length c))) := (Fr.refl [sz w] w7).wr (.inl (by simp)) _
  exact ⟨a, c, rfl, ⟨hrec.1.fr hf (fun k hk hm => by have := hne k hk; simp at hm; omega), hrec.2⟩, T.rd.fr hf (by simp; omega) (fun k hk hm => by have := hv k hk; simp at hm; omega), T.fr.wr (.inr (Nat.le_refl _)) _, hne⟩
theorem TkS.frS {w w' w2 : World} {b sb : Nat} {v : Value} {B R : List UInt8} {k : Int} {r : RecP} {lv : Value} {S : List Nat} (h : TkS w b sb v B R k r lv w') (hb : b < sz w) (hs : sz w + 1 < sb) (hv : ∀ k, v.ownBlock = some k → k < sz w) (hf : Fr S w' w2) (hS : ∀ k ∈ S, sb < k) : TkS w b sb v B R k r lv w2 := by
  have hn : ∀ x, x ≤ sb → x ∉ S := fun x hx hk => by have := hS x hk; omega
  exact ⟨by rw [hf.mm (lt_of_fz h.z) (hn _ (by omega)), h.m], by rw [hf.fz (lt_of_fz h.z) (hn _ (by omega)), h.z], by rw [hf.mm (lt_of_fz h.z0) (hn _ (by omega)), h.m0], by rw [hf.fz (lt_of_fz h.z0) (hn _ (by omega)), h.z0], by rw [hf.mm h.sl (hn _ (Nat.le_refl _)), h.s], hf.lt h.sl, h.rd.fr hf (hn _ (by omega)) (fun k hk => hn k (by have := hv k hk; omega)), h.fr.trans hf (fun k hk => .inr (by have := hS k hk; omega))⟩
def TkI (w : World) (b sb : Nat) (v : Value) (B R : List UInt8) (n : Nat) (r1 : RecP) (L : List ItemP) (m : Nat) (e : Env) (w' : World) : Prop :=
  ∃ (i : Nat) (lv : Value), m = L.length - i ∧ i ≤ L.length ∧ TkS w b sb v B (encAll ((L.drop i).flatMap (itP n)) ++ R) n r1 lv w' ∧ w'.ownsRow (sb + 1) 105 2 lv i (flat itemV (L.take i)) ∧
    e 0 = pt b 0 ∧ e 3 = pt (sz w + 1) 0 ∧ e 2 = pt (sz w) 0 ∧ e 47 = i64 L.length ∧ e 48 = i64 i
theorem bs59one {x : ItemP} {w : World} : pBuildSlice P 59 1 [(0, .agg (itemV x).toArray)] w = some (sl (sz w) 0 1 1, nw w (itemV x) 105) := by
  rw [bsl59 (by omega) (by simp [Value.cells, itemV])]
  simp [splice, Value.cells, itemV]
set_option maxHeartbeats 8000000 in
set_option maxRecDepth 20000 in
theorem take_loop {w w7 : World} {b sb : Nat} {v : Value} {B R : List UInt8} {n : Nat} {r1 : RecP} {L : List ItemP} (hr1 : r1.kind = (n : Int)) (hn : n = 8 ∨ n = 9) (hit : ∀ i, i < L.length → itemP n L i) (hoI : ∀ x ∈ L, okI x) (hL : L.length ≤ 32)
    (T : TkS w b sb v B (encAll (L.flatMap (itP n)) ++ R) n r1 (.slice none 0 0) w7) (hb : b < sz w) (hs : sz w + 1 < sb) (hv : ∀ k, v.ownBlock = some k → k < sz w) {e : Env}
    (e0 : e 0 = pt b 0) (e3 : e 3 = pt (sz w + 1) 0) (e2 : e 2 = pt (sz w) 0) (e47 : e 47 = i64 L.length) (e48 : e 48 = i64 0) {K : KT}
    (hdone : ∀ e' lv w', TkS w b sb v B R n r1 lv w' → w'.ownsRow (sb + 1) 105 2 lv L.length (flat itemV L) → e' 0 = pt b 0 → e' 3 = pt (sz w + 1) 0 → e' 2 = pt (sz w) 0 → K (.exit 0) e' w') :
    loopE F64B0 e w7 K := by
  refine loopE_of (TkI w b sb v B R n r1 L) L.length ⟨0, .slice none 0 0, by omega, by omega, T, World.ownsRow_nil _ _ _ _, e0, e3, e2, e47, e48⟩ ?_
  rintro m e w3 ⟨i, lv, rfl, hi, T, hown, e0, e3, e2, e47, e48⟩
  unfold F64B0
  by_cases hlt : i < L.length
  · have hji : (i : Int) < L.length := by omega
    have hwj : IntKind.i64.wrap ((i : Int) + 1) = ((i + 1 : Nat) : Int) := wrap64 (by omega) (by omega)
    obtain ⟨x, hx⟩ : ∃ x, L[i]? = some x := ⟨L[i], List.getElem?_eq_getElem hlt⟩
    have hxm : x ∈ L := List.mem_of_getElem? hx
    have hxo := hoI x hxm
    obtain ⟨x1, x2, x3, _⟩ := hit i hlt x hx
    have hdr : L.drop i = x :: L.drop (i + 1) := by
      rw [List.drop_eq_getElem_cons hlt]
      congr 1
      have := (List.getElem?_eq_some_iff.1 hx).2
      exact this
    have htk : L.take (i + 1) = L.take i ++ [x] := by rw [List.take_add_one, hx]; rfl
    have hm3 := T.m
    have hz3 := T.z
    have hls : sz w + 1 < sz w3 := lt_of_fz hz3
    have hsl3 := T.sl
    obtain ⟨W4, hW4⟩ : ∃ W4, W4 = nw w3 [Value.float FloatKind.f64 0, Value.string ByteArray.empty] 105 := ⟨_, rfl⟩
    have f4 : Fr [] w3 W4 := by rw [hW4]; exact (Fr.refl [] w3).nw _ _
    have T4 := T.frS hb hs hv f4 (by simp)
    have hown4 := own_fr hown f4 (by simp)
    have i4 : mm W4 (sz w3) = itemV ⟨0, []⟩ := by rw [hW4]; simp [mm_nw]; rfl
    have iz4 : fz W4 (sz w3) = false := by rw [hW4]; simp [fz_nw]
    have s4 : sz W4 = sz w3 + 1 := by rw [hW4, sz_nw]
    have hm4 := T4.m
    have hz4 := T4.z
    have hg0 : ∀ r lv, gt (rcV r lv) 0 = i64 r.kind := fun _ _ => rfl
    have hg7 : ∀ r lv, gt (rcV r lv) 7 = lv := fun _ _ => rfl
    have len8 : ∀ x lx, (rcV x lx).length = 8 := fun _ _ => rfl
    have len2 : ∀ x, (itemV x).length = 2 := fun _ => rfl
    have hs0 : ∀ y z, (itemV y).set 0 (fl z) = itemV ⟨z, y.name⟩ := fun _ _ => rfl
    have hs1 : ∀ y (s : List UInt8), (itemV y).set 1 (strB s) = itemV ⟨y.score, s⟩ := fun _ _ => rfl
    have hs7 : ∀ r lv lv2, (rcV r lv).set 7 lv2 = rcV r lv2 := fun _ _ _ => rfl
    have htl : ∀ y : ItemP, (itemV y).take 2 = itemV y := fun _ => rfl
    have hlvc : lv.oneCell' = true := by
      obtain ⟨a', c', rfl⟩ := own_val hown
      rfl
    rcases hn with rfl | rfl
    · have hrd6 := T4.rd
      rw [hdr, List.flatMap_cons, encAll_app] at hrd6
      rw [show encAll (itP ((8 : Nat) : Int) x) = digits x.name.length ++ x.name by simp [itP, encAll, enc_sP]] at hrd6
      simp only [List.append_assoc] at hrd6
      have hx0 : x.score = 0 := real_zero hxo (x2 rfl) x3
      have T6 := T4.read hb (by omega) (Fr.refl _ _) hrd6
      have hown6 := hown4
      have i6 : mm W4 (sz w3) = itemV ⟨x.score, []⟩ := by rw [i4, hx0]
      have iz6 := iz4
      have s6 : sz w3 < sz W4 := by omega
      try simp (maxDischargeDepth := 8) [↓sC, sB, sM, e0, e3, e2, e47, e48, hji, hlt, ← hW4, hm4, hz4, hg0, hr1, len8]
      refine (gS (n := 16) T6.rd x1 (by omega)).call ?_
      rintro _ w7 ⟨rfl, hrd7, f7⟩
      have T7 := T6.read hb (by omega) f7 hrd7
      have hown7 := own_fr hown6 f7 (fun k hk hm => by have := (own_lt hown6 k hk).1; simp at hm; omega)
      have i7 : mm w7 (sz w3) = itemV ⟨x.score, []⟩ := by rw [f7.mm s6 (by simp; omega), i6]
      have iz7 : fz w7 (sz w3) = false := by rw [f7.fz s6 (by simp; omega), iz6]
      have s7 : sz w3 < sz w7 := by have := f7.size; omega
      obtain ⟨W8, hW8⟩ : ∃ W8, W8 = wr w7 (sz w3) (itemV x) := ⟨_, rfl⟩
      have f8 : Fr [sz w3] w7 W8 := by rw [hW8]; exact (Fr.refl _ _).wr (.inl (by simp)) _
      have T8 := T7.frS hb hs hv f8 (by simp; omega)
      have hown8 := own_fr hown7 f8 (fun k hk hm => by have := (own_lt hown k hk).2; simp at hm; omega)
      have i8 : mm W8 (sz w3) = itemV x := by rw [hW8]; exact mm_wr_same iz7 _
      have s8 : sz w3 < sz W8 := by rw [hW8, sz_wr]; exact s7
      have hm8 := T8.m
      have f9 : Fr [] W8 (nw W8 (itemV x) 105) := (Fr.refl [] W8).nw _ _
      have hsb8 : sb + 1 ≤ sz W8 := by omega
      obtain ⟨lv2, w9, hrun, hown9, hg9, _⟩ := append_own2 (P := P) (t := 59) (ty := 59) (sb + 1) sliceE59 hasZero105 cellsOf105 (by rw [zeroL105]; rfl) (by omega) (own_fr hown8 f9 (by simp)) (by rw [sz_nw]; omega) (rd_new W8 (itemV x) 105 (n := 1) (by unfold maxLen; omega)) rfl
        (itemV_one x) (by unfold maxLen; omega) (by rw [bytesOf105]; omega)
      have f10 := Fr.of_grown hg9
      have T9 := T8.frS hb hs hv f9 (by simp)
      have T10 := T9.frS hb hs hv f10 (fun k hk => by have := (own_lt hown8 k (by simpa using hk)).1; omega)
      have hm10 := T10.m
      have hz10 := T10.z
      have hown9' : w9.ownsRow (sb + 1) 105 2 lv2 (i + 1) (flat itemV (L.take (i + 1))) := by
        rw [htk]
        simpa [flat] using hown9
      have hlv2 : lv2.oneCell' = true := by
        obtain ⟨a', c', rfl⟩ := own_val hown9
        rfl
      have hbs : pBuildSlice P 59 1 [(0, .agg (itemV x).toArray)] W8 = some (sl (sz W8) 0 1 1, nw W8 (itemV x) 105) := bs59one
      obtain ⟨W11, hW11⟩ : ∃ W11, W11 = wr w9 (sz w + 1) (rcV r1 lv2) := ⟨_, rfl⟩
      have T11 : TkS w b sb v B (encAll ((L.drop (i + 1)).flatMap (itP ((8 : Nat) : Int))) ++ R) ((8 : Nat) : Int) r1 lv2 W11 := by rw [hW11]; exact T10.put hb hs hv
      have f11 : Fr [sz w + 1] w9 W11 := by rw [hW11]; exact (Fr.refl _ _).wr (.inl (by simp)) _
      have hown11 := own_fr hown9' f11 (fun k hk hm => by have := (own_lt hown9' k hk).1; simp at hm; omega)
      try simp (maxDischargeDepth := 8) [↓sC, sB, sM, i7, iz7, s7, hs1, len2, ← hW8, i8, s8, hm8, hg7, htl, hbs, hrun, hm10, hz10, hlv2, len8, hs7, ← hW11, e0, e3, e48, hwj, -bsl59, -Int.natCast_add]
      refine ⟨L.length - (i + 1), by omega, i + 1, lv2, rfl, by omega, T11, hown11, by simp [put_get, e0], by simp [put_get, e3], by simp [put_get, e2], by simp [put_get, e47], by simp [put_get]⟩
    · have hrd4 := T4.rd
      rw [hdr, List.flatMap_cons, encAll_app] at hrd4
      rw [show encAll (itP ((9 : Nat) : Int) x) = placeB (key x.score) ++ (digits x.name.length ++ x.name) by simp [itP, encAll, enc_fP, enc_sP]] at hrd4
      simp only [List.append_assoc] at hrd4
      try simp (maxDischargeDepth := 8) [↓sC, sB, sM, e0, e3, e2, e47, e48, hji, hlt, ← hW4, hm4, hz4, hg0, hr1, len8]
      refine (gF hrd4 hxo (by simp [placeB])).call ?_
      rintro _ w5 ⟨rfl, hrd5, f5⟩
      rw [← x3]
      have T5 := T4.read hb (by omega) f5 hrd5
      have hown5 := own_fr hown4 f5 (fun k hk hm => by have := (own_lt hown4 k hk).1; simp at hm; omega)
      have i5 : mm w5 (sz w3) = itemV ⟨0, []⟩ := by rw [f5.mm (by omega) (by simp; omega), i4]
      have iz5 : fz w5 (sz w3) = false := by rw [f5.fz (by omega) (by simp; omega), iz4]
      have s5 : sz w3 < sz w5 := by have := f5.size; omega
      obtain ⟨W6, hW6⟩ : ∃ W6, W6 = wr w5 (sz w3) (itemV ⟨x.score, []⟩) := ⟨_, rfl⟩
      have f6 : Fr [sz w3] w5 W6 := by rw [hW6]; exact (Fr.refl _ _).wr (.inl (by simp)) _
      have T6 := T5.frS hb hs hv f6 (by simp; omega)
      have hown6 := own_fr hown5 f6 (fun k hk hm => by have := (own_lt hown k hk).2; simp at hm; omega)
      have i6 : mm W6 (sz w3) = itemV ⟨x.score, []⟩ := by rw [hW6]; exact mm_wr_same iz5 _
      have iz6 : fz W6 (sz w3) = false := by rw [hW6, fz_wr, iz5]
      have s6 : sz w3 < sz W6 := by rw [hW6, sz_wr]; exact s5
      try simp (maxDischargeDepth := 8) [↓sC, sB, sM, i5, iz5, s5, hs0, len2, ← hW6]
      refine (gS (n := 16) T6.rd x1 (by omega)).call ?_
      rintro _ w7 ⟨rfl, hrd7, f7⟩
      have T7 := T6.read hb (by omega) f7 hrd7
      have hown7 := own_fr hown6 f7 (fun k hk hm => by have := (own_lt hown6 k hk).1; simp at hm; omega)
      have i7 : mm w7 (sz w3) = itemV ⟨x.score, []⟩ := by rw [f7.mm s6 (by simp; omega), i6]
      have iz7 : fz w7 (sz w3) = false := by rw [f7.fz s6 (by simp; omega), iz6]
      have s7 : sz w3 < sz w7 := by have := f7.size; omega
      obtain ⟨W8, hW8⟩ : ∃ W8, W8 = wr w7 (sz w3) (itemV x) := ⟨_, rfl⟩
      have f8 : Fr [sz w3] w7 W8 := by rw [hW8]; exact (Fr.refl _ _).wr (.inl (by simp)) _
      have T8 := T7.frS hb hs hv f8 (by simp; omega)
      have hown8 := own_fr hown7 f8 (fun k hk hm => by have := (own_lt hown k hk).2; simp at hm; omega)
      have i8 : mm W8 (sz w3) = itemV x := by rw [hW8]; exact mm_wr_same iz7 _
      have s8 : sz w3 < sz W8 := by rw [hW8, sz_wr]; exact s7
      have hm8 := T8.m
      have f9 : Fr [] W8 (nw W8 (itemV x) 105) := (Fr.refl [] W8).nw _ _
      have hsb8 : sb + 1 ≤ sz W8 := by omega
      obtain ⟨lv2, w9, hrun, hown9, hg9, _⟩ := append_own2 (P := P) (t := 59) (ty := 59) (sb + 1) sliceE59 hasZero105 cellsOf105 (by rw [zeroL105]; rfl) (by omega) (own_fr hown8 f9 (by simp)) (by rw [sz_nw]; omega) (rd_new W8 (itemV x) 105 (n := 1) (by unfold maxLen; omega)) rfl
        (itemV_one x) (by unfold maxLen; omega) (by rw [bytesOf105]; omega)
      have f10 := Fr.of_grown hg9
      have T9 := T8.frS hb hs hv f9 (by simp)
      have T10 := T9.frS hb hs hv f10 (fun k hk => by have := (own_lt hown8 k (by simpa using hk)).1; omega)
      have hm10 := T10.m
      have hz10 := T10.z
      have hown9' : w9.ownsRow (sb + 1) 105 2 lv2 (i + 1) (flat itemV (L.take (i + 1))) := by
        rw [htk]
        simpa [flat] using hown9
      have hlv2 : lv2.oneCell' = true := by
        obtain ⟨a', c', rfl⟩ := own_val hown9
        rfl
      have hbs : pBuildSlice P 59 1 [(0, .agg (itemV x).toArray)] W8 = some (sl (sz W8) 0 1 1, nw W8 (itemV x) 105) := bs59one
      obtain ⟨W11, hW11⟩ : ∃ W11, W11 = wr w9 (sz w + 1) (rcV r1 lv2) := ⟨_, rfl⟩
      have T11 : TkS w b sb v B (encAll ((L.drop (i + 1)).flatMap (itP ((9 : Nat) : Int))) ++ R) ((9 : Nat) : Int) r1 lv2 W11 := by rw [hW11]; exact T10.put hb hs hv
      have f11 : Fr [sz w + 1] w9 W11 := by rw [hW11]; exact (Fr.refl _ _).wr (.inl (by simp)) _
      have hown11 := own_fr hown9' f11 (fun k hk hm => by have := (own_lt hown9' k hk).1; simp at hm; omega)
      try simp (maxDischargeDepth := 8) [↓sC, sB, sM, i7, iz7, s7, hs1, len2, ← hW8, i8, s8, hm8, hg7, htl, hbs, hrun, hm10, hz10, hlv2, len8, hs7, ← hW11, e0, e3, e48, hwj, -bsl59, -Int.natCast_add]
      refine ⟨L.length - (i + 1), by omega, i + 1, lv2, rfl, by omega, T11, hown11, by simp [put_get, e0], by simp [put_get, e3], by simp [put_get, e2], by simp [put_get, e47], by simp [put_get]⟩
  · have : i = L.length := by omega
    subst this
    try simp (maxDischargeDepth := 8) [↓sC, sB, sM, e0, e3, e2, e47, e48]
    rw [List.drop_length] at T
    rw [List.take_length] at hown
    exact hdone _ _ _ T hown (by simp [put_get, e0]) (by simp [put_get, e3]) (by simp [put_get, e2])
end Go.Proofs.YtieejbkbdfccdaaGreat

set_option linter.unusedVariables false
set_option linter.unusedSimpArgs false
namespace Go.Proofs.YtieejbkbdfccdaaGreat
open Go
set_option maxHeartbeats 8000000 in
set_option maxRecDepth 20000 in
theorem take_spec {w : World} {b : Nat} {v : Value} {B R : List UInt8} {r : RecP} (hrd : RdAt w b v B (encAll (recP r) ++ R)) (hok : RecOk r) (ho : okR r) (hv : ∀ k, v.ownBlock = some k → k < sz w) :
    Ret P 64 #[pt b 0] w fun x w' => TkR w b v B R r x w' := by
  refine F64ok ?_
  unfold F64
  have hz8 : [Value.int IntKind.i64 0, Value.int IntKind.i64 0, Value.int IntKind.i64 0, Value.int IntKind.i64 0, Value.float FloatKind.f64 0, Value.int IntKind.i64 0, Value.string ByteArray.empty, Value.slice none 0 0] = rcV rz (.slice none 0 0) := rfl
  obtain ⟨W, hW⟩ : ∃ W, W = nw (nw w (rcV rz (.slice none 0 0)) 61) (rcV rz (.slice none 0 0)) 61 := ⟨_, rfl⟩
  have fW : Fr [] w W := by rw [hW]; exact ((Fr.refl [] w).nw _ _).nw _ _
  have hsW : sz W = sz w + 2 := by rw [hW]; simp [sz_nw]
  have m0 : mm W (sz w) = rcV rz (.slice none 0 0) := by rw [hW, mm_nw, if_neg (by simp [sz_nw]), mm_nw, if_pos rfl]
  have m1 : mm W (sz w + 1) = rcV rz (.slice none 0 0) := by rw [hW, mm_nw, if_pos (by simp [sz_nw])]
  have z0 : fz W (sz w) = false := by rw [hW, fz_nw, if_neg (by simp [sz_nw]), fz_nw, if_pos rfl]
  have z1 : fz W (sz w + 1) = false := by rw [hW, fz_nw, if_pos (by simp [sz_nw])]
  have hbl := hrd.lt
  have hk1 := hok.k1
  have hk9 := hok.k9
  obtain ⟨n, hn⟩ : ∃ n : Nat, r.kind = (n : Int) := ⟨r.kind.toNat, by omega⟩
  have htn : r.kind.toNat = n := by omega
  obtain ⟨rest, hrest⟩ : ∃ rest, encAll (recP r) = digits n ++ rest := by
    unfold recP
    rw [encAll_app, htn]
    exact ⟨_, by simp [encAll, enc_uP]; rfl⟩
  rw [hrest, List.append_assoc] at hrd
  have hrdW := hrd.fr fW (by simp) (by simp)
  try simp (maxDischargeDepth := 8) [↓sC, sB, sM, hz8, ← hW]
  refine (gUpto (m := 9) hrdW (by omega) (by omega)).call ?_
  rintro _ w1 ⟨rfl, hrd1, f1⟩
  have n1 : mm w1 (sz w + 1) = rcV rz (.slice none 0 0) := by rw [f1.mm (by omega) (by simp; omega), m1]
  have y1 : fz w1 (sz w + 1) = false := by rw [f1.fz (by omega) (by simp; omega), z1]
  have hset : (rcV rz (.slice none 0 0)).set 0 (i64 n) = rcV { rz with kind := (n : Int) } (.slice none 0 0) := rfl
  have len8 : ∀ x lx, (rcV x lx).length = 8 := fun _ _ => rfl
  have hn0 : ¬ n = 0 := by omega
  have hn0' : ¬ (n : Int) = 0 := by omega
  have hg0 : ∀ lv, gt (rcV { rz with kind := (n : Int) } lv) 0 = i64 n := fun _ => rfl
  obtain ⟨W2, hW2⟩ : ∃ W2, W2 = wr w1 (sz w + 1) (rcV { rz with kind := (n : Int) } (.slice none 0 0)) := ⟨_, rfl⟩
  have q2 : mm W2 (sz w + 1) = rcV { rz with kind := (n : Int) } (.slice none 0 0) := by rw [hW2]; exact mm_wr_same y1 _
  try simp (maxDischargeDepth := 8) [↓sC, sB, sM, n1, y1, hset, len8, ← hW2, q2, hg0, hn0, hn0']
  refine (shaped_spec (w := W2) (k := (n : Int))).call ?_
  rintro _ w3 ⟨rfl, f3⟩
  have F2 : Fr [b] w W2 := by rw [hW2]; exact ((fW.mono (by simp)).trans f1 (fun k hk => .inl hk)).wr (.inr (by omega)) _
  have F3 : Fr [b] w w3 := F2.trans (f3.mono (by simp)) (fun k hk => .inl hk)
  have hsz3 : sz w + 2 ≤ sz w3 := by have h1 := f1.size; have h3 := f3.size; rw [hW2, sz_wr] at h3; omega
  obtain ⟨W4, hW4⟩ : ∃ W4, W4 = wr (nw w3 [Value.bool false, Value.bool false, Value.bool false, Value.bool false, Value.bool false] 144) (sz w3) (shapeV n) := ⟨_, rfl⟩
  have f4 : Fr [] w3 W4 := by rw [hW4]; exact ((Fr.refl [] w3).nw _ _).wr (.inr (Nat.le_refl _)) _
  have hrd2 : RdAt W2 b v B (rest ++ R) := by
    rw [hW2]
    exact hrd1.fr (S := [sz w + 1]) ((Fr.refl [sz w + 1] w1).wr (.inl (by simp)) _) (by simp; omega) (fun k hk hm => by have := hv k hk; simp at hm; omega)
  have n0 : mm w1 (sz w) = rcV rz (.slice none 0 0) := by rw [f1.mm (by omega) (by simp; omega), m0]
  have y0 : fz w1 (sz w) = false := by rw [f1.fz (by omega) (by simp; omega), z0]
  have f34 := f3.trans0 f4
  have hlt2 : sz w + 1 < sz W2 := by rw [hW2, sz_wr]; have := f1.size; omega
  have T4 : TkS w b (sz w3) v B (rest ++ R) n { rz with kind := (n : Int) } (.slice none 0 0) W4 :=
    ⟨by rw [f34.mm hlt2 (by simp), q2], by rw [f34.fz hlt2 (by simp), hW2, fz_wr, y1], by rw [f34.mm (by omega) (by simp), hW2, mm_wr_ne (by omega), n0], by rw [f34.fz (by omega) (by simp), hW2, fz_wr, y0],
     by rw [hW4]; exact mm_wr_same (by rw [fz_nw, if_pos rfl]) _, by rw [hW4, sz_wr, sz_nw]; omega, hrd2.fr f34 (by simp) (by simp), F3.trans (f4.mono (by simp)) (fun k hk => .inl hk)⟩
  have shl : (shapeV (n : Int)).length = 5 := rfl
  have g0 : gt (shapeV (n : Int)) 0 = .bool (decide ((n : Int) = 1)) := rfl
  have g1 : gt (shapeV (n : Int)) 1 = .bool (decide ((n : Int) = 2 ∨ (n : Int) = 3 ∨ (n : Int) = 4)) := rfl
  have g2 : gt (shapeV (n : Int)) 2 = .bool (decide ((n : Int) = 4)) := rfl
  have g3 : gt (shapeV (n : Int)) 3 = .bool (decide ((n : Int) = 5 ∨ (n : Int) = 6 ∨ (n : Int) = 7)) := rfl
  have g4 : gt (shapeV (n : Int)) 4 = .bool (decide ((n : Int) = 8 ∨ (n : Int) = 9)) := rfl
  have hsh : (∀ u, u ∈ shapeV (n : Int) → u.oneCell' = true) = True := eq_true (by intro u hu; simp only [shapeV, List.mem_cons, List.not_mem_nil, or_false] at hu; rcases hu with rfl | rfl | rfl | rfl | rfl <;> rfl)
  have hspl : splice [Value.bool false, Value.bool false, Value.bool false, Value.bool false, Value.bool false] 0 (shapeV (n : Int)) = shapeV n := splice_full rfl
  by_cases c1 : n = 1
  · have c1' : ((n : Int) = 1) = True := eq_true (by omega)
    have b1 : decide ((n : Int) = 1) = true := by simp; omega
    have b2 : decide ((n : Int) = 2 ∨ (n : Int) = 3 ∨ (n : Int) = 4) = false := by simp; omega
    have b3 : decide ((n : Int) = 4) = false := by simp; omega
    have b4 : decide ((n : Int) = 5 ∨ (n : Int) = 6 ∨ (n : Int) = 7) = false := by simp; omega
    have b5 : decide ((n : Int) = 8 ∨ (n : Int) = 9) = false := by simp; omega
    rw [b1] at g0; rw [b2] at g1; rw [b3] at g2; rw [b4] at g3; rw [b5] at g4
    try simp (maxDischargeDepth := 8) [↓sC, sB, sM, hsh, hspl, shl, ← hW4, T4.s, g0, g1, g2, g3, g4]
    have hr1 : r.kind = 1 := by omega
    have hrest1 : rest = digits r.text.length ++ r.text := by
      have : encAll (recP r) = digits n ++ (digits r.text.length ++ r.text) := by
        unfold recP
        rw [if_pos hr1, htn]
        simp [encAll, enc_uP, enc_sP]
      rw [this] at hrest
      exact (List.append_cancel_left hrest).symm
    have hT4 := T4.rd
    rw [hrest1, List.append_assoc] at hT4
    refine (gS (n := 64) hT4 (hok.text hr1) (by omega)).call ?_
    rintro _ w5 ⟨rfl, hrd5, f5⟩
    have T5 := T4.read hbl (by omega) f5 hrd5
    have hset6 : (rcV { rz with kind := (n : Int) } (.slice none 0 0)).set 6 (strB r.text) = rcV { rz with kind := (n : Int), text := r.text } (.slice none 0 0) := rfl
    obtain ⟨W6, hW6⟩ : ∃ W6, W6 = wr w5 (sz w + 1) (rcV { rz with kind := (n : Int), text := r.text } (.slice none 0 0)) := ⟨_, rfl⟩
    have T6 : TkS w b (sz w3) v B R n { rz with kind := (n : Int), text := r.text } (.slice none 0 0) W6 := by rw [hW6]; exact T5.put hbl (by omega) hv
    have ho1 : (strB r.text).oneCell' = true := oc_strB _
    have t8 : ∀ r lv, (rcV r lv).take 8 = rcV r lv := fun _ _ => rfl
    have hspz : ∀ x l n c, splice (rcV rz (.slice none 0 0)) 0 (rcV x (.slice l n c)) = rcV x (.slice l n c) := fun _ _ _ _ => splice_full rfl
    try simp (maxDischargeDepth := 8) [↓sC, sB, sM, T5.m, T5.z, hset6, len8, ← hW6, T6.s, T6.m, shl, g0, g1, g2, g3, g4, ho1, t8]
    have he : ({ rz with kind := (n : Int), text := r.text } : RecP) = r := by
      obtain ⟨_, _, x1, x2, x3, x4, x5, x6⟩ : r.kind = 1 ∧ True ∧ r.num = 0 ∧ r.low = 0 ∧ r.high = 0 ∧ key r.real = key 0 ∧ r.cap = 0 ∧ r.list = [] := by
        rcases five_kinds hok.k1 hok.k9 hok.only with ⟨y0, _, y⟩ | ⟨y0, _⟩ | ⟨y0, _⟩ | ⟨y0, _⟩ | ⟨y0, _⟩
        · exact ⟨y0, trivial, y⟩
        all_goals omega
      have x7 := real_zero ho.2.2.2.2.1 x4 hok.real
      obtain ⟨a1, a2, a3, a4, a5, a6, a7, a8⟩ := r
      simp only at *
      simp [rz, hn, x1, x2, x3, x5, x6, x7]
    have hl0 : r.list = [] := by rw [← he]; rfl
    have hrec : IsRec W6 (.slice none 0 0) r := ⟨by rw [hl0]; exact .inl ⟨none, 0, rfl, rfl, rfl⟩, ho⟩
    have hrec' : IsRec W6 (.slice none r.list.length 0) r := by rw [hl0]; exact hrec
    have T6m := T6.m
    rw [he] at T6 T6m ⊢
    have hl00 : (Value.slice none 0 0) = .slice none r.list.length 0 := by rw [hl0]; rfl
    have hchk := recCheck_spec hrec' hok
    rw [← hl00] at hchk
    refine hchk.call ?_
    rintro _ w7 ⟨rfl, f7⟩
    have T7 := T6.fr0 f7
    try simp (maxDischargeDepth := 8) [↓sC, sB, sM, T7.m, T7.m0, T7.z0, t8, hspz, rcV_oneT, len8]
    rw [hl00] at T7 ⊢
    exact tk_done T7 (hrec'.fr0 f7) (by simp [Value.ownBlock]) hbl hv
  · by_cases c2 : n = 2 ∨ n = 3
    · have b1 : decide ((n : Int) = 1) = false := by simp; omega
      have b2 : decide ((n : Int) = 2 ∨ (n : Int) = 3 ∨ (n : Int) = 4) = true := by simp; omega
      have b3 : decide ((n : Int) = 4) = false := by simp; omega
      have b4 : decide ((n : Int) = 5 ∨ (n : Int) = 6 ∨ (n : Int) = 7) = false := by simp; omega
      have b5 : decide ((n : Int) = 8 ∨ (n : Int) = 9) = false := by simp; omega
      rw [b1] at g0; rw [b2] at g1; rw [b3] at g2; rw [b4] at g3; rw [b5] at g4
      try simp (maxDischargeDepth := 8) [↓sC, sB, sM, hsh, hspl, shl, ← hW4, T4.s, g0, g1, g2, g3, g4]
      have hrest1 : rest = digits (zig r.num) := by
        have : encAll (recP r) = digits n ++ (digits (zig r.num)) := by
          unfold recP
          rw [if_neg (by omega), if_neg (by omega), if_pos (by omega), htn]
          simp [encAll, enc_uP, enc_iP, enc_fP]
        rw [this] at hrest
        exact (List.append_cancel_left hrest).symm
      have hT4 := T4.rd
      rw [hrest1] at hT4
      refine (gI hT4 (zig_lt ho.2.1.1 ho.2.1.2)).call ?_
      rintro _ w5 ⟨rfl, hrd5, f5⟩
      have T5 := T4.read hbl (by omega) f5 hrd5
      have hcan : True := trivial
      have hset6 : (rcV { rz with kind := (n : Int) } (.slice none 0 0)).set 1 (i64 r.num) = rcV { rz with kind := (n : Int), num := r.num } (.slice none 0 0) := rfl
      obtain ⟨W6, hW6⟩ : ∃ W6, W6 = wr w5 (sz w + 1) (rcV { rz with kind := (n : Int), num := r.num } (.slice none 0 0)) := ⟨_, rfl⟩
      have T6 : TkS w b (sz w3) v B R n { rz with kind := (n : Int), num := r.num } (.slice none 0 0) W6 := by rw [hW6]; exact T5.put hbl (by omega) hv
      have t8 : ∀ r lv, (rcV r lv).take 8 = rcV r lv := fun _ _ => rfl
      have hspz : ∀ x l n c, splice (rcV rz (.slice none 0 0)) 0 (rcV x (.slice l n c)) = rcV x (.slice l n c) := fun _ _ _ _ => splice_full rfl
      try simp (maxDischargeDepth := 8) [↓sC, sB, sM, T5.m, T5.z, T5.s, hset6, len8, ← hW6, T6.s, T6.m, shl, g0, g1, g2, g3, g4, t8, hcan]
      have he : ({ rz with kind := (n : Int), num := r.num } : RecP) = r := by
        rcases five_kinds hok.k1 hok.k9 hok.only with ⟨y0, _, y⟩ | ⟨y0, _, y⟩ | ⟨y0, _, y⟩ | ⟨y0, _, y⟩ | ⟨y0, _, y⟩ <;> try omega
        obtain ⟨x1, x2, x3, x4, x5, x6⟩ := y
        have x7 := real_zero ho.2.2.2.2.1 x4 hok.real
        obtain ⟨a1, a2, a3, a4, a5, a6, a7, a8⟩ := r
        simp only at *
        simp_all [rz]
      have hl0 : r.list = [] := by rw [← he]; rfl
      have hrec' : IsRec W6 (.slice none r.list.length 0) r := ⟨by rw [hl0]; exact .inl ⟨none, 0, rfl, rfl, rfl⟩, ho⟩
      rw [he] at T6 ⊢
      have hl00 : (Value.slice none 0 0) = .slice none r.list.length 0 := by rw [hl0]; rfl
      have hchk := recCheck_spec hrec' hok
      rw [← hl00] at hchk
      refine hchk.call ?_
      rintro _ w7 ⟨rfl, f7⟩
      have T7 := T6.fr0 f7
      try simp (maxDischargeDepth := 8) [↓sC, sB, sM, T7.m, T7.m0, T7.z0, t8, hspz, rcV_oneT, len8]
      rw [hl00] at T7 ⊢
      exact tk_done T7 (hrec'.fr0 f7) (by simp [Value.ownBlock]) hbl hv
    · by_cases c3 : n = 5 ∨ n = 6 ∨ n = 7
      · have b1 : decide ((n : Int) = 1) = false := by simp; omega
        have b2 : decide ((n : Int) = 2 ∨ (n : Int) = 3 ∨ (n : Int) = 4) = false := by simp; omega
        have b3 : decide ((n : Int) = 4) = false := by simp; omega
        have b4 : decide ((n : Int) = 5 ∨ (n : Int) = 6 ∨ (n : Int) = 7) = true := by simp; omega
        have b5 : decide ((n : Int) = 8 ∨ (n : Int) = 9) = false := by simp; omega
        rw [b1] at g0; rw [b2] at g1; rw [b3] at g2; rw [b4] at g3; rw [b5] at g4
        try simp (maxDischargeDepth := 8) [↓sC, sB, sM, hsh, hspl, shl, ← hW4, T4.s, g0, g1, g2, g3, g4]
        have hrest1 : rest = placeB (key r.real) := by
          have : encAll (recP r) = digits n ++ (placeB (key r.real)) := by
            unfold recP
            rw [if_neg (by omega), if_neg (by omega), if_neg (by omega), if_pos (by omega), htn]
            simp [encAll, enc_uP, enc_iP, enc_fP]
          rw [this] at hrest
          exact (List.append_cancel_left hrest).symm
        have hT4 := T4.rd
        rw [hrest1] at hT4
        refine (gF hT4 ho.2.2.2.2.1 (by simp [placeB])).call ?_
        rintro _ w5 ⟨rfl, hrd5, f5⟩
        have T5 := T4.read hbl (by omega) f5 hrd5
        have hcan : canon r.real = r.real := hok.real.symm
        have hset6 : (rcV { rz with kind := (n : Int) } (.slice none 0 0)).set 4 (fl r.real) = rcV { rz with kind := (n : Int), real := r.real } (.slice none 0 0) := rfl
        obtain ⟨W6, hW6⟩ : ∃ W6, W6 = wr w5 (sz w + 1) (rcV { rz with kind := (n : Int), real := r.real } (.slice none 0 0)) := ⟨_, rfl⟩
        have T6 : TkS w b (sz w3) v B R n { rz with kind := (n : Int), real := r.real } (.slice none 0 0) W6 := by rw [hW6]; exact T5.put hbl (by omega) hv
        have t8 : ∀ r lv, (rcV r lv).take 8 = rcV r lv := fun _ _ => rfl
        have hspz : ∀ x l n c, splice (rcV rz (.slice none 0 0)) 0 (rcV x (.slice l n c)) = rcV x (.slice l n c) := fun _ _ _ _ => splice_full rfl
        try simp (maxDischargeDepth := 8) [↓sC, sB, sM, T5.m, T5.z, T5.s, hset6, len8, ← hW6, T6.s, T6.m, shl, g0, g1, g2, g3, g4, t8, hcan]
        have he : ({ rz with kind := (n : Int), real := r.real } : RecP) = r := by
          rcases five_kinds hok.k1 hok.k9 hok.only with ⟨y0, _, y⟩ | ⟨y0, _, y⟩ | ⟨y0, _, y⟩ | ⟨y0, _, y⟩ | ⟨y0, _, y⟩ <;> try omega
          obtain ⟨x1, x2, x3, x4, x5, x6⟩ := y
          have x7 := hn
          obtain ⟨a1, a2, a3, a4, a5, a6, a7, a8⟩ := r
          simp only at *
          simp_all [rz]
        have hl0 : r.list = [] := by rw [← he]; rfl
        have hrec' : IsRec W6 (.slice none r.list.length 0) r := ⟨by rw [hl0]; exact .inl ⟨none, 0, rfl, rfl, rfl⟩, ho⟩
        rw [he] at T6 ⊢
        have hl00 : (Value.slice none 0 0) = .slice none r.list.length 0 := by rw [hl0]; rfl
        have hchk := recCheck_spec hrec' hok
        rw [← hl00] at hchk
        refine hchk.call ?_
        rintro _ w7 ⟨rfl, f7⟩
        have T7 := T6.fr0 f7
        try simp (maxDischargeDepth := 8) [↓sC, sB, sM, T7.m, T7.m0, T7.z0, t8, hspz, rcV_oneT, len8]
        rw [hl00] at T7 ⊢
        exact tk_done T7 (hrec'.fr0 f7) (by simp [Value.ownBlock]) hbl hv
      · by_cases c4 : n = 4
        · have b1 : decide ((n : Int) = 1) = false := by simp; omega
          have b2 : decide ((n : Int) = 2 ∨ (n : Int) = 3 ∨ (n : Int) = 4) = true := by simp; omega
          have b3 : decide ((n : Int) = 4) = true := by simp; omega
          have b4 : decide ((n : Int) = 5 ∨ (n : Int) = 6 ∨ (n : Int) = 7) = false := by simp; omega
          have b5 : decide ((n : Int) = 8 ∨ (n : Int) = 9) = false := by simp; omega
          rw [b1] at g0; rw [b2] at g1; rw [b3] at g2; rw [b4] at g3; rw [b5] at g4
          try simp (maxDischargeDepth := 8) [↓sC, sB, sM, hsh, hspl, shl, ← hW4, T4.s, g0, g1, g2, g3, g4]
          have hrest1 : rest = digits (zig r.low) ++ (digits (zig r.high) ++ digits (zig r.num)) := by
            have : encAll (recP r) = digits n ++ (digits (zig r.low) ++ (digits (zig r.high) ++ digits (zig r.num))) := by
              unfold recP
              rw [if_neg (by omega), if_pos (by omega), htn]
              simp [encAll, enc_uP, enc_iP]
            rw [this] at hrest
            exact (List.append_cancel_left hrest).symm
          have hT4 := T4.rd
          rw [hrest1, List.append_assoc, List.append_assoc] at hT4
          refine (gI hT4 (zig_lt ho.2.2.1.1 ho.2.2.1.2)).call ?_
          rintro _ w5 ⟨rfl, hrd5, f5⟩
          have T5 := T4.read hbl (by omega) f5 hrd5
          try simp (maxDischargeDepth := 8) [↓sC, sB, sM]
          refine (gI hrd5 (zig_lt ho.2.2.2.1.1 ho.2.2.2.1.2)).call ?_
          rintro _ w6 ⟨rfl, hrd6, f6⟩
          have T6 := T5.read hbl (by omega) f6 hrd6
          have hs2 : (rcV { rz with kind := (n : Int) } (.slice none 0 0)).set 2 (i64 r.low) = rcV { rz with kind := (n : Int), low := r.low } (.slice none 0 0) := rfl
          obtain ⟨W7, hW7⟩ : ∃ W7, W7 = wr w6 (sz w + 1) (rcV { rz with kind := (n : Int), low := r.low } (.slice none 0 0)) := ⟨_, rfl⟩
          have T7 : TkS w b (sz w3) v B (digits (zig r.num) ++ R) n { rz with kind := (n : Int), low := r.low } (.slice none 0 0) W7 := by rw [hW7]; exact T6.put hbl (by omega) hv
          have hs3 : (rcV { rz with kind := (n : Int), low := r.low } (.slice none 0 0)).set 3 (i64 r.high) = rcV { rz with kind := (n : Int), low := r.low, high := r.high } (.slice none 0 0) := rfl
          obtain ⟨W8, hW8⟩ : ∃ W8, W8 = wr W7 (sz w + 1) (rcV { rz with kind := (n : Int), low := r.low, high := r.high } (.slice none 0 0)) := ⟨_, rfl⟩
          have T8 : TkS w b (sz w3) v B (digits (zig r.num) ++ R) n { rz with kind := (n : Int), low := r.low, high := r.high } (.slice none 0 0) W8 := by rw [hW8]; exact T7.put hbl (by omega) hv
          try simp (maxDischargeDepth := 8) [↓sC, sB, sM, T6.m, T6.z, hs2, ← hW7, T7.m, T7.z, hs3, len8, ← hW8, T8.s, T8.m, shl, g0, g1, g2, g3, g4]
          refine (gI T8.rd (zig_lt ho.2.1.1 ho.2.1.2)).call ?_
          rintro _ w9 ⟨rfl, hrd9, f9⟩
          have T9 := T8.read hbl (by omega) f9 hrd9
          have hs1 : (rcV { rz with kind := (n : Int), low := r.low, high := r.high } (.slice none 0 0)).set 1 (i64 r.num) = rcV { rz with kind := (n : Int), low := r.low, high := r.high, num := r.num } (.slice none 0 0) := rfl
          obtain ⟨W6, hW6⟩ : ∃ W6, W6 = wr w9 (sz w + 1) (rcV { rz with kind := (n : Int), low := r.low, high := r.high, num := r.num } (.slice none 0 0)) := ⟨_, rfl⟩
          have TA : TkS w b (sz w3) v B R n { rz with kind := (n : Int), low := r.low, high := r.high, num := r.num } (.slice none 0 0) W6 := by rw [hW6]; exact T9.put hbl (by omega) hv
          have t8 : ∀ r lv, (rcV r lv).take 8 = rcV r lv := fun _ _ => rfl
          have hspz : ∀ x l n c, splice (rcV rz (.slice none 0 0)) 0 (rcV x (.slice l n c)) = rcV x (.slice l n c) := fun _ _ _ _ => splice_full rfl
          try simp (maxDischargeDepth := 8) [↓sC, sB, sM, T9.m, T9.z, T9.s, hs1, len8, ← hW6, TA.s, TA.m, shl, g0, g1, g2, g3, g4, t8]
          have he : ({ rz with kind := (n : Int), low := r.low, high := r.high, num := r.num } : RecP) = r := by
            rcases five_kinds hok.k1 hok.k9 hok.only with ⟨y0, _, y⟩ | ⟨y0, _, y⟩ | ⟨y0, _, y⟩ | ⟨y0, _, y⟩ | ⟨y0, _, y⟩ <;> try omega
            obtain ⟨x1, x4, x5, x6⟩ := y
            have x7 := real_zero ho.2.2.2.2.1 x4 hok.real
            obtain ⟨a1, a2, a3, a4, a5, a6, a7, a8⟩ := r
            simp only at *
            simp_all [rz]
          have hl0 : r.list = [] := by rw [← he]; rfl
          have hrec' : IsRec W6 (.slice none r.list.length 0) r := ⟨by rw [hl0]; exact .inl ⟨none, 0, rfl, rfl, rfl⟩, ho⟩
          rw [he] at TA ⊢
          have hl00 : (Value.slice none 0 0) = .slice none r.list.length 0 := by rw [hl0]; rfl
          have hchk := recCheck_spec hrec' hok
          rw [← hl00] at hchk
          refine hchk.call ?_
          rintro _ w7 ⟨rfl, f7⟩
          have TB := TA.fr0 f7
          try simp (maxDischargeDepth := 8) [↓sC, sB, sM, TB.m, TB.m0, TB.z0, t8, hspz, rcV_oneT, len8]
          rw [hl00] at TB ⊢
          exact tk_done TB (hrec'.fr0 f7) (by simp [Value.ownBlock]) hbl hv
        · have b1 : decide ((n : Int) = 1) = false := by simp; omega
          have b2 : decide ((n : Int) = 2 ∨ (n : Int) = 3 ∨ (n : Int) = 4) = false := by simp; omega
          have b3 : decide ((n : Int) = 4) = false := by simp; omega
          have b4 : decide ((n : Int) = 5 ∨ (n : Int) = 6 ∨ (n : Int) = 7) = false := by simp; omega
          have b5 : decide ((n : Int) = 8 ∨ (n : Int) = 9) = true := by simp; omega
          rw [b1] at g0; rw [b2] at g1; rw [b3] at g2; rw [b4] at g3; rw [b5] at g4
          try simp (maxDischargeDepth := 8) [↓sC, sB, sM, hsh, hspl, shl, ← hW4, T4.s, g0, g1, g2, g3, g4]
          obtain ⟨q1, q2, q3, q4⟩ := hok.cap (by omega)
          have hrest1 : rest = digits r.cap.toNat ++ (digits r.list.length ++ encAll (r.list.flatMap (itP r.kind))) := by
            have : encAll (recP r) = digits n ++ (digits r.cap.toNat ++ (digits r.list.length ++ encAll (r.list.flatMap (itP r.kind)))) := by
              unfold recP
              rw [if_neg (by omega), if_neg (by omega), if_neg (by omega), if_neg (by omega), htn]
              rw [encAll_app, encAll_app]
              simp [encAll, enc_uP]
            rw [this] at hrest
            exact (List.append_cancel_left hrest).symm
          have hT4 := T4.rd
          rw [hrest1, List.append_assoc, List.append_assoc] at hT4
          refine (gUpto (m := 32) hT4 (by omega) (by omega)).call ?_
          rintro _ w5 ⟨rfl, hrd5, f5⟩
          have T5 := T4.read hbl (by omega) f5 hrd5
          have hcap : ((r.cap.toNat : Nat) : Int) = r.cap := by omega
          have hs5 : (rcV { rz with kind := (n : Int) } (.slice none 0 0)).set 5 (i64 r.cap.toNat) = rcV { rz with kind := (n : Int), cap := r.cap.toNat } (.slice none 0 0) := rfl
          obtain ⟨W6, hW6⟩ : ∃ W6, W6 = wr w5 (sz w + 1) (rcV { rz with kind := (n : Int), cap := r.cap.toNat } (.slice none 0 0)) := ⟨_, rfl⟩
          have T6 : TkS w b (sz w3) v B (digits r.list.length ++ (encAll (r.list.flatMap (itP r.kind)) ++ R)) n { rz with kind := (n : Int), cap := r.cap.toNat } (.slice none 0 0) W6 := by rw [hW6]; exact T5.put hbl (by omega) hv
          try simp (maxDischargeDepth := 8) [↓sC, sB, sM, T5.m, T5.z, hs5, len8, ← hW6, -Int.ofNat_toNat]
          have hln : r.list.length ≤ 32 := by omega
          refine (gUpto (m := 32) T6.rd hln (by omega)).call ?_
          rintro _ w7 ⟨rfl, hrd7, f7⟩
          have T7 := T6.read hbl (by omega) f7 hrd7
          have hn89 : n = 8 ∨ n = 9 := by omega
          obtain ⟨r1, hr1⟩ : ∃ r1 : RecP, r1 = { rz with kind := (n : Int), cap := r.cap.toNat } := ⟨_, rfl⟩
          have hrc : ∀ lv, rcV r1 lv = rcV r lv := fun lv => by
            rcases five_kinds hok.k1 hok.k9 hok.only with ⟨y0, _, y⟩ | ⟨y0, _, y⟩ | ⟨y0, _, y⟩ | ⟨y0, _, y⟩ | ⟨y0, _, y⟩ <;> try omega
            obtain ⟨x1, x2, x3, x4, x5⟩ := y
            have x6 := real_zero ho.2.2.2.2.1 x5 hok.real
            rw [hr1]
            unfold rcV
            simp only [hn, x1, x2, x3, x4, x6, rz, hcap]
          have T7' : TkS w b (sz w3) v B (encAll (r.list.flatMap (itP (n : Int))) ++ R) n r1 (.slice none 0 0) w7 := by
            rw [hr1, ← hn]
            rw [← hn] at T7
            exact T7
          have q4' : ∀ i, i < r.list.length → itemP (n : Int) r.list i := by rw [← hn]; exact q4
          try simp (maxDischargeDepth := 8) [↓sC, sB, sM, -Int.ofNat_toNat]
          refine take_loop (r1 := r1) (by rw [hr1]) hn89 q4' ho.2.2.2.2.2.2 hln T7' hbl (by omega) hv (by simp [put_get, argE_get]) (by simp [put_get]) (by simp [put_get]) (by simp [put_get]) (by simp [put_get]) ?_
          rintro e' lv w8 T8 hown e0 e3 e2
          obtain ⟨a, c, rfl⟩ := own_val hown
          have T9 : TkS w b (sz w3) v B R n r (.slice a r.list.length c) w8 := { T8 with m := by rw [T8.m, hrc] }
          have hrec : IsRec w8 (.slice a r.list.length c) r := ⟨own_rd hown, ho⟩
          have t8 : ∀ r lv, (rcV r lv).take 8 = rcV r lv := fun _ _ => rfl
          have hspz : ∀ x l n c, splice (rcV rz (.slice none 0 0)) 0 (rcV x (.slice l n c)) = rcV x (.slice l n c) := fun _ _ _ _ => splice_full rfl
          try simp (maxDischargeDepth := 8) [↓sC, sB, sM, e0, e3, e2, T9.m, len8, t8]
          refine (recCheck_spec hrec hok).call ?_
          rintro _ w9 ⟨rfl, f9⟩
          have TB := T9.fr0 f9
          try simp (maxDischargeDepth := 8) [↓sC, sB, sM, e0, e3, e2, TB.m, TB.m0, TB.z0, t8, hspz, rcV_oneT, len8]
          exact tk_done TB (hrec.fr0 f9) (fun k hk => by have := (own_lt hown k hk).1; omega) hbl hv
end Go.Proofs.YtieejbkbdfccdaaGreat
