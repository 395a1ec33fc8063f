/- WholeTraces: rule.Apply. -/
import Derived.Test.YtieejbkbdfccdaaDoorSim
import Derived.Test.YtieejbkbdfccdaaDoorTA
import Derived.Test.YtieejbkbdfccdaaDoorWTrace
import Derived.Maps.Range
import Derived.Maps.OwnSet
import Derived.Maps.Keyed
import Derived.StringKeys
set_option linter.unusedVariables false
set_option linter.unusedSimpArgs false
namespace Go.Proofs.YtieejbkbdfccdaaDoor
open Go

section
variable {w : World} {p q : Nat} {r : RecP} {la lb : Option Addr} {c n d : Nat} {a : ActP}
theorem chAny {s1 s2 s3 s4 s5 : Nat} (h : ChS w p q r (.slice la r.list.length c)) (hr : Fit' r) (ha : actI a) (hon : onK a.kind = r.kind) (ht : ChTab w s1 s2 s3 s4 s5) {K : Value → World → Prop} {KP : List PanicEntry → World → Prop} (hK : ∀ v w', ChR w p q r (.slice la r.list.length c) a v w' → K v w') :
    callVE P C (gt (chT s1 s2 s3 s4 s5) a.kind.toNat) [pt p 0, .agg (acV a (.slice lb n d)).toArray, pt q 0] w K KP := by
  have hk1 := hr.1.k1
  have hl := list1000 hr.1
  obtain ⟨hok, ⟨hi1, hi2, hi3⟩, _⟩ := ha
  have hv := onK_vals (k := a.kind) (by omega)
  rcases hv with ⟨hv | hv, e⟩ | ⟨hv, e⟩ | ⟨hv | hv, e⟩ | ⟨hv | hv | hv, e⟩ | ⟨hv, e⟩ | ⟨hv, e⟩ | ⟨hv | hv | hv, e⟩ | ⟨hv | hv | hv, e⟩ | ⟨hv, e⟩
  · have hg : gt (chT s1 s2 s3 s4 s5) a.kind.toNat = .func (.func 81) #[] #[] := by rw [hv]; rfl
    rw [hg]; exact callV (by kernel_rfl) ((chg5 h hv).call hK)
  · have hg : gt (chT s1 s2 s3 s4 s5) a.kind.toNat = .func (.func 82) #[] #[] := by rw [hv]; rfl
    rw [hg]; exact callV (by kernel_rfl) ((chg6 h hv (by omega)).call hK)
  · have hg : gt (chT s1 s2 s3 s4 s5) a.kind.toNat = .func (.func 83) #[] #[] := by rw [hv]; rfl
    rw [hg]; exact callV (by kernel_rfl) ((chg7 h hv).call hK)
  · have hg : gt (chT s1 s2 s3 s4 s5) a.kind.toNat = .func (.func 84) #[] #[] := by rw [hv]; rfl
    rw [hg]; exact callV (by kernel_rfl) ((chg8 h hv hi2).call hK)
  · have hg : gt (chT s1 s2 s3 s4 s5) a.kind.toNat = .func (.func 85) #[] #[] := by rw [hv]; rfl
    rw [hg]; exact callV (by kernel_rfl) ((chg9 h (.inl hv)).call hK)
  · have hg : gt (chT s1 s2 s3 s4 s5) a.kind.toNat = .func (.func 86) #[] #[] := by rw [hv]; rfl
    rw [hg]; exact callV (by kernel_rfl) ((chg10 h hv hr.1 (by omega)).call hK)
  · have hg : gt (chT s1 s2 s3 s4 s5) a.kind.toNat = .func (.func 87) #[] #[] := by rw [hv]; rfl
    rw [hg]; exact callV (by kernel_rfl) ((chg11 h hv hr.1 (by omega)).call hK)
  · have hg : gt (chT s1 s2 s3 s4 s5) a.kind.toNat = .func (.func 85) #[] #[] := by rw [hv]; rfl
    rw [hg]; exact callV (by kernel_rfl) ((chg9 h (.inr hv)).call hK)
  · have hg : gt (chT s1 s2 s3 s4 s5) a.kind.toNat = .func (.func 98) #[] #[pt s1 0] := by rw [hv]; rfl
    rw [hg]; exact callVc (by kernel_rfl) ((chgReal h (.inl hv) hi3 (by rw [hv]; exact ht.m1.1) ht.m1.2).call hK)
  · have hg : gt (chT s1 s2 s3 s4 s5) a.kind.toNat = .func (.func 98) #[] #[pt s2 0] := by rw [hv]; rfl
    rw [hg]; exact callVc (by kernel_rfl) ((chgReal h (.inr (.inl hv)) hi3 (by rw [hv]; exact ht.m2.1) ht.m2.2).call hK)
  · have hg : gt (chT s1 s2 s3 s4 s5) a.kind.toNat = .func (.func 98) #[] #[pt s3 0] := by rw [hv]; rfl
    rw [hg]; exact callVc (by kernel_rfl) ((chgReal h (.inr (.inr (.inl hv))) hi3 (by rw [hv]; exact ht.m3.1) ht.m3.2).call hK)
  · have hg : gt (chT s1 s2 s3 s4 s5) a.kind.toNat = .func (.func 98) #[] #[pt s4 0] := by rw [hv]; rfl
    rw [hg]; exact callVc (by kernel_rfl) ((chgReal h (.inr (.inr (.inr (.inl hv)))) hi3 (by rw [hv]; exact ht.m4.1) ht.m4.2).call hK)
  · have hg : gt (chT s1 s2 s3 s4 s5) a.kind.toNat = .func (.func 98) #[] #[pt s5 0] := by rw [hv]; rfl
    rw [hg]; exact callVc (by kernel_rfl) ((chgReal h (.inr (.inr (.inr (.inr hv)))) hi3 (by rw [hv]; exact ht.m5.1) ht.m5.2).call hK)
  · have hg : gt (chT s1 s2 s3 s4 s5) a.kind.toNat = .func (.func 92) #[] #[] := by rw [hv]; rfl
    rw [hg]; exact callV (by kernel_rfl) ((chg18 h hv hr (by omega)).call hK)
  · have hg : gt (chT s1 s2 s3 s4 s5) a.kind.toNat = .func (.func 93) #[] #[] := by rw [hv]; rfl
    rw [hg]; exact callV (by kernel_rfl) ((chg19 h hv hr (by omega)).call hK)
  · have hg : gt (chT s1 s2 s3 s4 s5) a.kind.toNat = .func (.func 96) #[] #[] := by rw [hv]; rfl
    rw [hg]; exact callV (by kernel_rfl) ((chg20 h hv hr (by omega)).call hK)
  · have hg : gt (chT s1 s2 s3 s4 s5) a.kind.toNat = .func (.func 97) #[] #[] := by rw [hv]; rfl
    rw [hg]; exact callV (by kernel_rfl) ((chg21 h hv hr (by omega) hi3).call hK)
end

structure ApG (w0 : World) (s0 : Nat) (r : RecP) (lv : Value) (tb : Bool) (a : ActP) (la : Value) (w : World) : Prop where
  p : mm w s0 = rcV r lv
  pz : fz w s0 = false
  q : mm w (s0 + 1) = [.bool tb]
  s : mm w (s0 + 1 + 1) = acV a la
  rr : mm w (s0 + 1 + 1 + 1) = rcV rz (.slice none 0 0)
  rz' : fz w (s0 + 1 + 1 + 1) = false
  ra : mm w (s0 + 1 + 1 + 1 + 1) = anZ
  raz : fz w (s0 + 1 + 1 + 1 + 1) = false
  sz5 : s0 + 5 ≤ sz w
  fr : Fr [] w0 w
theorem ApG.fr0 {w0 : World} {s0 : Nat} {r : RecP} {lv : Value} {tb : Bool} {a : ActP} {la : Value} {w w' : World} (h : ApG w0 s0 r lv tb a la w) (hf : Fr [] w w') : ApG w0 s0 r lv tb a la w' := by
  have h5 := h.sz5
  exact ⟨by rw [hf.mm (by omega) (by simp), h.p], by rw [hf.fz (by omega) (by simp), h.pz], by rw [hf.mm (by omega) (by simp), h.q], by rw [hf.mm (by omega) (by simp), h.s], by rw [hf.mm (by omega) (by simp), h.rr],
    by rw [hf.fz (by omega) (by simp), h.rz'], by rw [hf.mm (by omega) (by simp), h.ra], by rw [hf.fz (by omega) (by simp), h.raz], by have := hf.size; omega, h.fr.trans0 hf⟩
theorem ApG.putS {w0 : World} {s0 : Nat} {r r' : RecP} {lv lv' : Value} {tb : Bool} {a : ActP} {la : Value} {w w' : World} {S : List Nat} (h : ApG w0 s0 r lv tb a la w) (hf : Fr S w w') (hS : ∀ k ∈ S, k = s0 ∨ s0 + 5 ≤ k) (hm : mm w' s0 = rcV r' lv') (hz : fz w' s0 = false) (hs : sz w0 ≤ s0) : ApG w0 s0 r' lv' tb a la w' := by
  have h5 := h.sz5
  have no : ∀ x, x ≠ s0 → x < s0 + 5 → x ∉ S := fun x hx hx5 hm => by rcases hS x hm with h' | h' <;> omega
  exact ⟨hm, hz, by rw [hf.mm (by omega) (no _ (by omega) (by omega)), h.q], by rw [hf.mm (by omega) (no _ (by omega) (by omega)), h.s], by rw [hf.mm (by omega) (no _ (by omega) (by omega)), h.rr],
    by rw [hf.fz (by omega) (no _ (by omega) (by omega)), h.rz'], by rw [hf.mm (by omega) (no _ (by omega) (by omega)), h.ra], by rw [hf.fz (by omega) (no _ (by omega) (by omega)), h.raz], by have := hf.size; omega, h.fr.trans hf (fun b hb => .inr (by rcases hS b hb with h' | h' <;> omega))⟩
/-- The end: the result's cells are laid. -/
structure ApE (w0 : World) (s0 : Nat) (tb : Bool) (x : RecP) (lx : Value) (an : AnP) (l2 : Value) (w W8 W9 : World) : Prop where
  e8 : W8 = wr w (s0 + 1 + 1 + 1) (rcV x lx)
  e9 : W9 = wr W8 (s0 + 1 + 1 + 1 + 1) (anV an l2)
  a0 : mm W8 s0 = mm w s0
  a1 : mm W8 (s0 + 1 + 1 + 1 + 1) = anZ
  a2 : fz W8 (s0 + 1 + 1 + 1 + 1) = false
  a3 : mm W8 (s0 + 1) = [.bool tb]
  b1 : mm W9 (s0 + 1 + 1 + 1) = rcV x lx
  b2 : mm W9 (s0 + 1 + 1 + 1 + 1) = anV an l2
  fr : Fr [] w0 W9
  rd : ∀ {v : Value} {m : Nat} {cs : List Value}, RdV w v m cs → (∀ k, v.ownBlock = some k → s0 + 5 ≤ k) → RdV W9 v m cs
structure ApQ (w0 : World) (s0 : Nat) (tb : Bool) (w : World) : Prop where
  q : mm w (s0 + 1) = [.bool tb]
  rr : mm w (s0 + 1 + 1 + 1) = rcV rz (.slice none 0 0)
  rz' : fz w (s0 + 1 + 1 + 1) = false
  ra : mm w (s0 + 1 + 1 + 1 + 1) = anZ
  raz : fz w (s0 + 1 + 1 + 1 + 1) = false
  sz5 : s0 + 5 ≤ sz w
  fr : Fr [] w0 w
theorem ApG.toQ {w0 : World} {s0 : Nat} {r : RecP} {lv : Value} {tb : Bool} {a : ActP} {la : Value} {w : World} (h : ApG w0 s0 r lv tb a la w) : ApQ w0 s0 tb w := ⟨h.q, h.rr, h.rz', h.ra, h.raz, h.sz5, h.fr⟩
theorem ApQ.to {w0 : World} {s0 : Nat} {tb : Bool} {w w' : World} {S : List Nat} (h : ApQ w0 s0 tb w) (hf : Fr S w w') (hS : ∀ k ∈ S, k = s0 ∨ s0 + 5 ≤ k) (hs : sz w0 ≤ s0) : ApQ w0 s0 tb w' := by
  have h5 := h.sz5
  have no : ∀ x, x ≠ s0 → x < s0 + 5 → x ∉ S := fun x hx hx5 hm => by rcases hS x hm with h' | h' <;> omega
  exact ⟨by rw [hf.mm (by omega) (no _ (by omega) (by omega)), h.q], by rw [hf.mm (by omega) (no _ (by omega) (by omega)), h.rr],
    by rw [hf.fz (by omega) (no _ (by omega) (by omega)), h.rz'], by rw [hf.mm (by omega) (no _ (by omega) (by omega)), h.ra], by rw [hf.fz (by omega) (no _ (by omega) (by omega)), h.raz], by have := hf.size; omega, h.fr.trans hf (fun b hb => .inr (by rcases hS b hb with h' | h' <;> omega))⟩
theorem ApQ.done {w0 : World} {s0 : Nat} {tb : Bool} {w : World} (h : ApQ w0 s0 tb w) (hs : sz w0 ≤ s0) (x : RecP) (lx : Value) (an : AnP) (l2 : Value) : ∃ W8 W9, ApE w0 s0 tb x lx an l2 w W8 W9 := by
  refine ⟨_, _, rfl, rfl, ?_, ?_, ?_, ?_, ?_, ?_, ?_, ?_⟩
  · rw [mm_wr_ne (by omega)]
  · rw [mm_wr_ne (by omega), h.ra]
  · rw [fz_wr, h.raz]
  · rw [mm_wr_ne (by omega), h.q]
  · rw [mm_wr_ne (by omega), mm_wr_same h.rz']
  · exact mm_wr_same (by rw [fz_wr, h.raz]) _
  · exact (h.fr.wr (.inr (by omega)) _).wr (.inr (by omega)) _
  · intro v m cs hr hk
    exact hr.fr (S := [s0 + 1 + 1 + 1, s0 + 1 + 1 + 1 + 1]) (((Fr.refl _ w).wr (.inl (by simp)) _).wr (.inl (by simp)) _) (fun k hk' hm => by have := hk k hk'; simp at hm; omega)
theorem ApG.done {w0 : World} {s0 : Nat} {r : RecP} {lv : Value} {tb : Bool} {a : ActP} {la : Value} {w : World} (h : ApG w0 s0 r lv tb a la w) (hs : sz w0 ≤ s0) (x : RecP) (lx : Value) (an : AnP) (l2 : Value) : ∃ W8 W9, ApE w0 s0 tb x lx an l2 w W8 W9 := h.toQ.done hs x lx an l2
theorem ch_err {r : RecP} {a : ActP} (hk1 : 1 ≤ r.kind) (hon : onK a.kind = r.kind) (h : (changeM r a).2.code ≠ 0) : changeM r a = (r, anC (changeM r a).2.code) := by
  have hv := onK_vals (k := a.kind) (by omega)
  rcases hv with ⟨hv | hv, e⟩ | ⟨hv, e⟩ | ⟨hv | hv, e⟩ | ⟨hv | hv | hv, e⟩ | ⟨hv, e⟩ | ⟨hv, e⟩ | ⟨hv | hv | hv, e⟩ | ⟨hv | hv | hv, e⟩ | ⟨hv, e⟩
  · rw [ch5 hv] at h; exact absurd rfl h
  · rw [ch6 hv] at h; exact absurd rfl h
  · rw [ch7 hv] at h; exact absurd rfl h
  · rw [ch8 hv] at h ⊢
    by_cases hp : plusB r a
    · rw [if_pos hp]; rfl
    · rw [if_neg hp] at h; exact absurd rfl h
  · rw [ch9 hv] at h ⊢
    by_cases hp : r.num < a.n
    · rw [if_pos hp]; rfl
    · rw [if_neg hp] at h; exact absurd rfl h
  · rw [ch10 hv] at h ⊢
    by_cases hp : r.high - r.num < a.n
    · rw [if_pos hp]; rfl
    · rw [if_neg hp] at h; exact absurd rfl h
  · rw [ch11 hv] at h ⊢
    by_cases hp : r.num - r.low < a.n
    · rw [if_pos hp]; rfl
    · rw [if_neg hp] at h; exact absurd rfl h
  · rw [ch12 hv] at h ⊢
    by_cases hp : r.num < a.n
    · rw [if_pos hp]; rfl
    · rw [if_neg hp] at h; exact absurd rfl h
  · rw [ch13 hv] at h; exact absurd rfl h
  · rw [ch14 hv] at h; exact absurd rfl h
  · rw [ch15 hv] at h; exact absurd rfl h
  · rw [ch16 hv] at h; exact absurd rfl h
  · rw [ch17 hv] at h; exact absurd rfl h
  · rw [ch18 hv] at h ⊢
    by_cases hp : hasN a.s r.list = true
    · rw [if_pos hp] at h; exact absurd rfl h
    · rw [if_neg hp] at h ⊢
      by_cases hq : r.cap ≤ r.list.length
      · rw [if_pos hq]; rfl
      · rw [if_neg hq] at h; exact absurd rfl h
  · rw [ch19 hv] at h; exact absurd rfl h
  · rw [ch20 hv] at h ⊢
    by_cases hp : hasN a.s r.list = true
    · rw [if_pos hp] at h; exact absurd rfl h
    · rw [if_neg hp]; rfl
  · rw [ch21 hv] at h; exact absurd rfl h
/-- What rule.Apply hands back. -/
def ApR (w : World) (res : Option RecP × AnP) (v : Value) (w' : World) : Prop :=
  ∃ (r' : RecP) (l : Option Addr) (c : Nat) (l2 : Option Addr) (c2 : Nat), v = .tuple #[.agg (rcV r' (.slice l r'.list.length c)).toArray, .bool res.1.isSome, .agg (anV res.2 (.slice l2 res.2.rec'.list.length c2)).toArray] ∧ (∀ x, res.1 = some x → r' = x) ∧
    IsRec w' (.slice l r'.list.length c) r' ∧ IsRec w' (.slice l2 res.2.rec'.list.length c2) res.2.rec' ∧ (∀ k, (Value.slice l r'.list.length c).ownBlock = some k → sz w ≤ k) ∧ (∀ k, (Value.slice l2 res.2.rec'.list.length c2).ownBlock = some k → sz w ≤ k) ∧ Fr [] w w'
def ofO (s : Option RecP) : RecP := match s with | some r => r | none => rz
set_option maxHeartbeats 8000000 in
set_option maxRecDepth 20000 in
theorem apply_spec {w : World} {s : Option RecP} {r : RecP} {tb : Bool} {la lb : Option Addr} {c d : Nat} {a : ActP} (hrr : r = ofO s) (htb : tb = s.isSome) (hw : KW w) (hr : IsRec w (.slice la r.list.length c) r) (hs : FitO s) (ha : IsAct w (.slice lb a.make.list.length d) a) (hok : ActOk a) :
    Ret P 37 #[.agg (rcV r (.slice la r.list.length c)).toArray, .bool tb, .agg (acV a (.slice lb a.make.list.length d)).toArray] w fun v w' => ApR w (applyM s a) v w' := by
  refine F37ok ?_
  unfold F37
  have haI : actI a := ⟨hok, ha.2, ha.1.2⟩
  have hz8 : [Value.int IntKind.i64 0, Value.int IntKind.i64 0, Value.int IntKind.i64 0, Value.int IntKind.i64 0, Value.float FloatKind.f64 0, Value.int IntKind.i64 0, Value.string ByteArray.empty, Value.slice none 0 0] = rcV rz (.slice none 0 0) := rfl
  have hz10 : Value.int IntKind.i64 0 :: Value.int IntKind.i64 0 :: rcV rz (.slice none 0 0) = anZ := rfl
  obtain ⟨W, hW⟩ : ∃ W, W = nw (nw (nw (nw (nw w (rcV r (.slice la r.list.length c)) 25) [.bool tb] 4) (acV a (.slice lb a.make.list.length d)) 27) (rcV rz (.slice none 0 0)) 25) anZ 49 := ⟨_, rfl⟩
  have h0 : ApG w (sz w) r (.slice la r.list.length c) tb a (.slice lb a.make.list.length d) W := by
    rw [hW]
    refine ⟨?_, ?_, ?_, ?_, ?_, ?_, ?_, ?_, ?_, ((((((Fr.refl [] w).nw _ _).nw _ _).nw _ _).nw _ _).nw _ _)⟩ <;> simp [mm_nw, fz_nw, sz_nw, Nat.add_assoc]
  have t8 : ∀ r lv, (rcV r lv).take 8 = rcV r lv := fun _ _ => rfl
  have t10 : ∀ an lv, (anV an lv).take 10 = anV an lv := fun _ _ => rfl
  have hsp : ∀ x lx l n c, splice (rcV x lx) 0 (rcV r (.slice l n c)) = rcV r (.slice l n c) := fun _ _ _ _ _ => splice_full rfl
  have hspz : ∀ x l n c, splice (rcV rz (.slice none 0 0)) 0 (rcV x (.slice l n c)) = rcV x (.slice l n c) := fun _ _ _ _ => splice_full rfl
  have hspr : ∀ lv l n c, splice (rcV r lv) 0 (rcV rz (.slice l n c)) = rcV rz (.slice l n c) := fun _ _ _ _ => splice_full rfl
  have hsa : ∀ an l n c, splice anZ 0 (anV an (.slice l n c)) = anV an (.slice l n c) := fun _ _ _ _ => splice_full rfl
  have len8 : ∀ x lx, (rcV x lx).length = 8 := fun _ _ => rfl
  have len10 : ∀ x lx, (anV x lx).length = 10 := fun _ _ => rfl
  have hl32 : r.list.length ≤ 32 := by
    rw [hrr]
    cases s with
    | none => exact Nat.zero_le _
    | some r => exact list1000 (hs r rfl).1
  have hml : a.make.list.length ≤ 1000000 := by have := make_len hok; omega
  try simp (maxDischargeDepth := 8) [↓sC, sB, sM, rcC, acC, Value.cells, hz8, hz10, ← hW, h0.q]
  refine condE_join (fun e w' => ∃ (l : Option Addr) (c' : Nat), ApG w (sz w) r (.slice l r.list.length c') tb a (.slice lb a.make.list.length d) w' ∧ IsRec w' (.slice l r.list.length c') r ∧ e 3 = pt (sz w) 0 ∧ e 4 = pt (sz w + 1) 0 ∧ e 5 = pt (sz w + 1 + 1) 0 ∧ e 6 = pt (sz w + 1 + 1 + 1) 0 ∧ e 8 = pt (sz w + 1 + 1 + 1 + 1) 0) ?_ ?_ ?_
  · intro hb K' hK'
    have hsn : s = none := by
      cases s with
      | none => rfl
      | some r => subst htb; simp at hb
    have hrz : r = rz := by rw [hrr, hsn]; rfl
    try simp (maxDischargeDepth := 8) [↓sC, sB, sM, bf25_nil, -bf25, h0.p, h0.pz, hspr, rcV_oneT, len8]
    refine hK' _ _ ⟨none, 0, ?_, ?_, by simp [put_get], by simp [put_get], by simp [put_get], by simp [put_get], by simp [put_get]⟩
    · refine h0.putS (S := [sz w]) ((Fr.refl _ W).wr (.inl (by simp)) _) (by simp) ?_ (by rw [fz_wr, h0.pz]) (Nat.le_refl _)
      rw [hrz]; exact mm_wr_same h0.pz _
    · rw [hrz]; exact isRec_rz
  · intro hb K' hK'
    exact hK' _ _ ⟨la, c, h0, hr.fr0 h0.fr, by simp [put_get], by simp [put_get], by simp [put_get], by simp [put_get], by simp [put_get]⟩
  rintro e w1 ⟨l0, c0, h1, hr1, e3, e4, e5, e6, e8⟩
  try simp (maxDischargeDepth := 8) [↓sC, sB, sM, e3, h1.p, t8]
  refine (recCloneO_spec hr1 (by omega)).call ?_
  rintro _ w2 ⟨l1, c1, rfl, hr2, hk2, f2⟩
  have h2 := h1.fr0 f2
  have h15 := h1.sz5
  obtain ⟨W2, hW2⟩ : ∃ W2, W2 = wr w2 (sz w) (rcV r (.slice l1 r.list.length c1)) := ⟨_, rfl⟩
  have hown : ∀ k, (Value.slice l1 r.list.length c1).ownBlock = some k → sz w + 5 ≤ k := fun k hk => by have := hk2 k hk; omega
  have hS : ApG w (sz w) r (.slice l1 r.list.length c1) tb a (.slice lb a.make.list.length d) W2 :=
    h2.putS (S := [sz w]) (by rw [hW2]; exact (Fr.refl _ w2).wr (.inl (by simp)) _) (by simp) (by rw [hW2]; exact mm_wr_same h2.pz _) (by rw [hW2, fz_wr, h2.pz]) (Nat.le_refl _)
  have hrS : IsRec W2 (.slice l1 r.list.length c1) r := ⟨hr2.1.fr (S := [sz w]) (by rw [hW2]; exact (Fr.refl _ w2).wr (.inl (by simp)) _) (fun k hk hm => by have := hown k hk; simp at hm; omega), hr2.2⟩
  try simp (maxDischargeDepth := 8) [↓sC, sB, sM, h2.p, h2.pz, rcV_oneT, hsp, len8, ← hW2, pFunc_eq, e3, e4, e5, hS.s, a14]
  refine (checkA_spec (hw.fr0 hS.fr) (ha.fr0 hS.fr) hok).call ?_
  rintro _ w3 ⟨rfl, f3⟩
  have h3 := hS.fr0 f3
  have hr3 := hrS.fr0 f3
  have hown2 : ∀ k, (Value.slice l1 r.list.length c1).ownBlock = some k → k < sz w3 := fun k hk => by
    have := hk2 k hk
    have e1 : sz W2 = sz w2 := by rw [hW2, sz_wr]
    have := f3.size
    omega
  clear hS hrS h2 hW2 hk2 hr2 f2 f3 h1 hr1 h0
  have kk1 := hok.k1
  cases tb
  · -- none
    have hsn : s = none := by
      cases s with
      | none => rfl
      | some r => simp at htb
    subst hsn
    have h4 := h3
    have hr4 := hr3
    obtain ⟨w4, hw4⟩ : ∃ w4, w4 = w3 := ⟨_, rfl⟩
    rw [← hw4] at h4 hr4 ⊢
    by_cases hk1 : a.kind = 1
    · try simp (maxDischargeDepth := 8) [↓sC, sB, sM, e3, e4, e5, h4.s, h4.q, h4.p, hk1, a14]
      refine (recCloneO_spec (ha.1.fr0 h4.fr) hml).call ?_
      rintro _ w5 ⟨l5, c5, rfl, hr5, hk5, f5⟩
      have h5 := h4.fr0 f5
      have h55 := h4.sz5
      have hown5 : ∀ k, (Value.slice l5 a.make.list.length c5).ownBlock = some k → sz w + 5 ≤ k := fun k hk => by have := hk5 k hk; omega
      obtain ⟨W8, W9, hE⟩ := h5.done (Nat.le_refl _) a.make (.slice l5 a.make.list.length c5) (anC 0) (.slice none 0 0)
      try simp (maxDischargeDepth := 8) [↓sC, sB, sM, e6, e8, bf49_nil, h5.rr, h5.rz', hspz, rcV_oneT, len8, ← hE.e8, hE.a1, hE.a2, hsa, anV_oneT, anZ_len, len10, ← hE.e9, hE.b1, hE.b2, t8, t10]
      have hres : applyM none a = (some a.make, anC 0) := by unfold applyM; rw [if_pos hk1]
      rw [hres]
      exact ⟨a.make, l5, c5, none, 0, rfl, (fun x hx => by cases hx; rfl), ⟨hE.rd hr5.1 hown5, hr5.2⟩, isRec_rz, fun k hk => by have := hown5 k hk; omega, by simp [Value.ownBlock], hE.fr⟩
    by_cases hk3 : a.kind = 3
    · have hres : applyM none a = (none, ⟨0, r.kind, rz⟩) := by unfold applyM; rw [if_neg hk1, if_pos hk3, hrr]; rfl
      have hrx : ∀ x, (none : Option RecP) = some x → r = x := fun x hx => by cases hx
      obtain ⟨W8, W9, hE⟩ := (h4.fr0 ((Fr.refl [] w4).drew)).done (Nat.le_refl _) r (.slice l1 r.list.length c1) ⟨0, r.kind, rz⟩ (.slice none 0 0)
      try simp (maxDischargeDepth := 8) [↓sC, sB, sM, e3, e4, e5, e6, e8, h4.s, h4.q, h4.p, hk1, hk3, a14, t8]
      refine drawE_of (fun e' w' => w' = W9 ∧ e' 6 = pt (sz w + 1 + 1 + 1) 0 ∧ e' 7 = .bool false ∧ e' 8 = pt (sz w + 1 + 1 + 1 + 1) 0) ?_ ?_
      · intro k' kp' hkk
        have ha0 : mm W8 (sz w) = rcV r (.slice l1 r.list.length c1) := by rw [hE.a0]; exact h4.p
        try simp (maxDischargeDepth := 8) [↓sC, sB, sM, e3, e4, e5, e6, e8, h4.s, h4.q, h4.p, ha0, h4.rr, h4.rz', h4.ra, h4.raz, t8, bf49_num, hspz, rcV_oneT, len8, ← hE.e8, hE.a1, hE.a2, hE.a3, hsa, anV_oneT, anZ_len, len10, ← hE.e9]
        repeat' apply And.intro
        all_goals (refine hkk _ _ ?_; exact ⟨rfl, by simp [put_get, e6], by simp [put_get], by simp [put_get, e8]⟩)
      · rintro e' w' ⟨rfl, e6', e7', e8'⟩
        try simp (maxDischargeDepth := 8) [↓sC, sB, sM, e6', e7', e8', hE.b1, hE.b2, t8, t10]
        rw [hres]
        exact ⟨r, l1, c1, none, 0, rfl, hrx, ⟨hE.rd (hr4.fr0 ((Fr.refl [] w4).drew)).1 hown, hr4.2⟩, isRec_rz, fun k hk => by have := hown k hk; omega, by simp [Value.ownBlock], hE.fr⟩
    · have hres : applyM none a = (none, anC 6) := by unfold applyM; rw [if_neg hk1, if_neg hk3]
      try simp (maxDischargeDepth := 8) [↓sC, sB, sM, e3, e4, e5, h4.s, h4.q, h4.p, hk1, hk3, a14]
      refine callVc (by kernel_rfl) ?_
      have hst := stays_spec (w := w4) (p := sz w) (t := sz w + 1) (r := r) (l := l1) (n := r.list.length) (c := c1) (k := 6) h4.p (by have := h4.sz5; omega) h4.q (by have := h4.sz5; omega)
      refine hst.call ?_
      rintro _ wS ⟨rfl, fS⟩
      have hSt := h4.fr0 fS
      obtain ⟨W8, W9, hE⟩ := hSt.done (Nat.le_refl _) r (.slice l1 r.list.length c1) (anC 6) (.slice none 0 0)
      try simp (maxDischargeDepth := 8) [↓sC, sB, sM, e6, e8, hSt.rr, hSt.rz', hspz, rcV_oneT, len8, ← hE.e8, hE.a1, hE.a2, hsa, anV_oneT, anZ_len, len10, ← hE.e9, hE.b1, hE.b2, t8, t10]
      rw [hres]
      exact ⟨r, l1, c1, none, 0, rfl, (fun x hx => by cases hx), ⟨hE.rd (hr4.fr0 fS).1 hown, hr4.2⟩, isRec_rz, fun k hk => by have := hown k hk; omega, by simp [Value.ownBlock], hE.fr⟩
  · -- some
    obtain ⟨r0, hs0⟩ : ∃ r0, s = some r0 := by
      cases s with
      | none => simp at htb
      | some r => exact ⟨r, rfl⟩
    subst hs0
    have hr0 : r = r0 := by rw [hrr]; rfl
    subst hr0
    have hfit := hs r rfl
    try simp (maxDischargeDepth := 8) [↓sC, sB, sM, e3, e4, h3.q, h3.p, t8]
    refine (recCheck_spec hr3 hfit.1).call ?_
    rintro _ w4 ⟨rfl, f4⟩
    have h4 := h3.fr0 f4
    have hr4 := hr3.fr0 f4
    have hown2 : ∀ k, (Value.slice l1 r.list.length c1).ownBlock = some k → k < sz w4 := fun k hk => f4.lt (hown2 k hk)
    clear h3 hr3 f4
    by_cases hk1 : a.kind = 1
    · have hres : applyM (some r) a = (some r, anC 7) := by unfold applyM; rw [if_pos hk1]
      try simp (maxDischargeDepth := 8) [↓sC, sB, sM, e3, e4, e5, h4.s, h4.q, h4.p, hk1, a14]
      refine callVc (by kernel_rfl) ?_
      have hst := stays_spec (w := w4) (p := sz w) (t := sz w + 1) (r := r) (l := l1) (n := r.list.length) (c := c1) (k := 7) h4.p (by have := h4.sz5; omega) h4.q (by have := h4.sz5; omega)
      refine hst.call ?_
      rintro _ wS ⟨rfl, fS⟩
      have hSt := h4.fr0 fS
      obtain ⟨W8, W9, hE⟩ := hSt.done (Nat.le_refl _) r (.slice l1 r.list.length c1) (anC 7) (.slice none 0 0)
      try simp (maxDischargeDepth := 8) [↓sC, sB, sM, e6, e8, hSt.rr, hSt.rz', hspz, rcV_oneT, len8, ← hE.e8, hE.a1, hE.a2, hsa, anV_oneT, anZ_len, len10, ← hE.e9, hE.b1, hE.b2, t8, t10]
      rw [hres]
      exact ⟨r, l1, c1, none, 0, rfl, (fun x hx => by cases hx; rfl), ⟨hE.rd (hr4.fr0 fS).1 hown, hr4.2⟩, isRec_rz, fun k hk => by have := hown k hk; omega, by simp [Value.ownBlock], hE.fr⟩
    by_cases hk3 : a.kind = 3
    · have hres : applyM (some r) a = (some r, ⟨0, r.kind, rz⟩) := by unfold applyM; rw [if_neg hk1, if_pos hk3]
      have hrx : ∀ x, some r = some x → r = x := fun x hx => by cases hx; rfl
      obtain ⟨W8, W9, hE⟩ := (h4.fr0 ((Fr.refl [] w4).drew)).done (Nat.le_refl _) r (.slice l1 r.list.length c1) ⟨0, r.kind, rz⟩ (.slice none 0 0)
      try simp (maxDischargeDepth := 8) [↓sC, sB, sM, e3, e4, e5, e6, e8, h4.s, h4.q, h4.p, hk1, hk3, a14, t8]
      refine drawE_of (fun e' w' => w' = W9 ∧ e' 6 = pt (sz w + 1 + 1 + 1) 0 ∧ e' 7 = .bool true ∧ e' 8 = pt (sz w + 1 + 1 + 1 + 1) 0) ?_ ?_
      · intro k' kp' hkk
        have ha0 : mm W8 (sz w) = rcV r (.slice l1 r.list.length c1) := by rw [hE.a0]; exact h4.p
        try simp (maxDischargeDepth := 8) [↓sC, sB, sM, e3, e4, e5, e6, e8, h4.s, h4.q, h4.p, ha0, h4.rr, h4.rz', h4.ra, h4.raz, t8, bf49_num, hspz, rcV_oneT, len8, ← hE.e8, hE.a1, hE.a2, hE.a3, hsa, anV_oneT, anZ_len, len10, ← hE.e9]
        repeat' apply And.intro
        all_goals (refine hkk _ _ ?_; exact ⟨rfl, by simp [put_get, e6], by simp [put_get], by simp [put_get, e8]⟩)
      · rintro e' w' ⟨rfl, e6', e7', e8'⟩
        try simp (maxDischargeDepth := 8) [↓sC, sB, sM, e6', e7', e8', hE.b1, hE.b2, t8, t10]
        rw [hres]
        exact ⟨r, l1, c1, none, 0, rfl, hrx, ⟨hE.rd (hr4.fr0 ((Fr.refl [] w4).drew)).1 hown, hr4.2⟩, isRec_rz, fun k hk => by have := hown k hk; omega, by simp [Value.ownBlock], hE.fr⟩
    by_cases hk2 : a.kind = 2
    · have hres : applyM (some r) a = (none, anC 0) := by unfold applyM; rw [if_neg hk1, if_neg hk3]; simp only; rw [if_pos hk2]
      obtain ⟨W8, W9, hE⟩ := h4.done (Nat.le_refl _) rz (.slice none 0 0) (anC 0) (.slice none 0 0)
      try simp (maxDischargeDepth := 8) [↓sC, sB, sM, e3, e4, e5, e6, e8, h4.s, h4.q, h4.p, hk2, a14, bf25_nil, -bf25, bf49_nil, h4.rr, h4.rz', hspz, rcV_oneT, len8, ← hE.e8, hE.a1, hE.a2, hsa, anV_oneT, anZ_len, len10, ← hE.e9, hE.b1, hE.b2, t8, t10]
      rw [hres]
      exact ⟨rz, none, 0, none, 0, rfl, (fun x hx => by cases hx), isRec_rz, isRec_rz, by simp [Value.ownBlock], by simp [Value.ownBlock], hE.fr⟩
    by_cases hk4 : a.kind = 4
    · have hres : applyM (some r) a = (some r, ⟨0, 0, r⟩) := by unfold applyM; rw [if_neg hk1, if_neg hk3]; simp only; rw [if_neg hk2, if_pos hk4]
      have hd4 := h4.fr0 ((Fr.refl [] w4).drew)
      have hrd4 := hr4.fr0 ((Fr.refl [] w4).drew)
      try simp (maxDischargeDepth := 8) [↓sC, sB, sM, e3, e4, e5, h4.s, h4.q, h4.p, hk4, a14]
      refine drawE_of (fun e' w' => ∃ (w5 : World) (l5 : Option Addr) (c5 : Nat) (W8 : World), ApE w (sz w) true r (.slice l1 r.list.length c1) ⟨0, 0, r⟩ (.slice l5 r.list.length c5) w5 W8 w' ∧ IsRec w5 (.slice l1 r.list.length c1) r ∧ IsRec w5 (.slice l5 r.list.length c5) r ∧ (∀ k, (Value.slice l5 r.list.length c5).ownBlock = some k → sz w + 5 ≤ k) ∧ e' 6 = pt (sz w + 1 + 1 + 1) 0 ∧ e' 7 = .bool true ∧ e' 8 = pt (sz w + 1 + 1 + 1 + 1) 0) ?_ ?_
      · intro k' kp' hkk
        try simp (maxDischargeDepth := 8) [↓sC, sB, sM, e3, e4, h4.q, h4.p, t8]
        refine (recCloneO_spec hrd4 (by omega)).call ?_
        rintro _ w5 ⟨l5, c5, rfl, hr5, hk5, f5⟩
        have h5 := hd4.fr0 f5
        have h55 := hd4.sz5
        obtain ⟨W8, W9, hE⟩ := h5.done (Nat.le_refl _) r (.slice l1 r.list.length c1) ⟨0, 0, r⟩ (.slice l5 r.list.length c5)
        try simp (maxDischargeDepth := 8) [↓sC, sB, sM, e3, e4, e6, e8, h5.q, h5.p, h5.rr, h5.rz', h5.ra, h5.raz, t8, bf49_rec, hspz, rcV_oneT, len8, ← hE.e8, hE.a1, hE.a2, hE.a3, hsa, anV_oneT, anZ_len, len10, ← hE.e9]
        repeat' apply And.intro
        all_goals (refine hkk _ _ ?_; exact ⟨w5, l5, c5, W8, hE, hrd4.fr0 f5, hr5, fun k hk => by have := hk5 k hk; omega, by simp [put_get, e6], by simp [put_get], by simp [put_get, e8]⟩)
      · rintro e' w' ⟨w5, l5, c5, W8, hE, g1, g2, g3, e6', e7', e8'⟩
        try simp (maxDischargeDepth := 8) [↓sC, sB, sM, e6', e7', e8', hE.b1, hE.b2, t8, t10]
        rw [hres]
        exact ⟨r, l1, c1, l5, c5, rfl, (fun x hx => by cases hx; rfl), ⟨hE.rd g1.1 hown, g1.2⟩, ⟨hE.rd g2.1 g3, g2.2⟩, fun k hk => by have := hown k hk; omega, fun k hk => by have := g3 k hk; omega, hE.fr⟩
    have hk5 : 5 ≤ a.kind := by omega
    try simp (maxDischargeDepth := 8) [↓sC, sB, sM, e3, e4, e5, h4.s, h4.q, h4.p, hk1, hk2, hk3, hk4, a14]
    refine (actOn_spec (hw.fr0 h4.fr.drew)).call ?_
    rintro _ w5 ⟨rfl, f5⟩
    have h5 := (h4.fr0 ((Fr.refl [] w4).drew)).fr0 f5
    have hr5 := (hr4.fr0 ((Fr.refl [] w4).drew)).fr0 f5
    have hown2 : ∀ k, (Value.slice l1 r.list.length c1).ownBlock = some k → k < sz w5 := fun k hk => f5.lt (by rw [sz_drew]; exact hown2 k hk)
    clear h4 hr4 f5
    by_cases hon : onK a.kind = r.kind
    rotate_left
    · have hres : applyM (some r) a = (some r, anC 5) := apply_off hk5 hon
      have hon' : ¬ (kindF a.kind).2.1 = r.kind := hon
      try simp (maxDischargeDepth := 8) [↓sC, sB, sM, e3, e4, e5, h5.s, h5.q, h5.p, hon', a14]
      refine callVc (by kernel_rfl) ?_
      have hst := stays_spec (w := w5) (p := sz w) (t := sz w + 1) (r := r) (l := l1) (n := r.list.length) (c := c1) (k := 5) h5.p (by have := h5.sz5; omega) h5.q (by have := h5.sz5; omega)
      refine hst.call ?_
      rintro _ wS ⟨rfl, fS⟩
      have hSt := h5.fr0 fS
      obtain ⟨W8, W9, hE⟩ := hSt.done (Nat.le_refl _) r (.slice l1 r.list.length c1) (anC 5) (.slice none 0 0)
      try simp (maxDischargeDepth := 8) [↓sC, sB, sM, e6, e8, hSt.rr, hSt.rz', hspz, rcV_oneT, len8, ← hE.e8, hE.a1, hE.a2, hsa, anV_oneT, anZ_len, len10, ← hE.e9, hE.b1, hE.b2, t8, t10]
      rw [hres]
      exact ⟨r, l1, c1, none, 0, rfl, (fun x hx => by cases hx; rfl), ⟨hE.rd (hr5.fr0 fS).1 hown, hr5.2⟩, isRec_rz, fun k hk => by have := hown k hk; omega, by simp [Value.ownBlock], hE.fr⟩
    have hon' : (kindF a.kind).2.1 = r.kind := hon
    have hres : applyM (some r) a = (some (changeM r a).1, (changeM r a).2) := apply_on hk5 hon
    try simp (maxDischargeDepth := 8) [↓sC, sB, sM, e3, e4, e5, h5.s, h5.q, h5.p, hon', a14, t8]
    refine (recCloneO_spec hr5 (by omega)).call ?_
    rintro _ w6 ⟨l6, c6, rfl, hr6, hk6, f6⟩
    have h6 := h5.fr0 f6
    have hr56 := hr5.fr0 f6
    have hown2 : ∀ k, (Value.slice l1 r.list.length c1).ownBlock = some k → k < sz w6 := fun k hk => f6.lt (hown2 k hk)
    have h55 := h5.sz5
    obtain ⟨W6, hW6⟩ : ∃ W6, W6 = nw (wr (nw w6 (rcV rz (.slice none 0 0)) 25) (sz w6) (rcV r (.slice l6 r.list.length c6))) anZ 49 := ⟨_, rfl⟩
    have fW6 : Fr [] w6 W6 := by rw [hW6]; exact (((Fr.refl [] w6).nw _ _).wr (.inr (Nat.le_refl _)) _).nw _ _
    have h7 := h6.fr0 fW6
    have hsz6 : sz W6 = sz w6 + 2 := by rw [hW6]; simp [sz_nw, sz_wr]
    have ho : mm W6 (sz w6 + 1) = anZ := by rw [hW6]; simp [mm_nw, sz_nw, sz_wr]
    have hoz : fz W6 (sz w6 + 1) = false := by rw [hW6]; simp [fz_nw, sz_nw, sz_wr]
    have hwas : mm W6 (sz w6) = rcV r (.slice l6 r.list.length c6) := by
      rw [hW6, mm_nw, if_neg (by rw [sz_wr, sz_nw]; omega)]
      exact mm_wr_same (by simp [fz_nw]) _
    try simp (maxDischargeDepth := 8) [↓sC, sB, sM, hz8, hz10, rcV_oneT, hspz, len8, ← hW6, e5, h7.s, a14]
    refine changesAll_spec.call ?_
    rintro _ w7 ⟨s1, s2, s3, s4, s5, rfl, htab, f7⟩
    have F67 : Fr [] w6 w7 := (fW6.drew).trans0 f7
    have G67 : Fr [] W6 w7 := ((Fr.refl [] W6).drew).trans0 f7
    have h8 := h6.fr0 F67
    have ho7 : mm w7 (sz w6 + 1) = anZ := by rw [G67.mm (by omega) (by simp), ho]
    have hoz7 : fz w7 (sz w6 + 1) = false := by rw [G67.fz (by omega) (by simp), hoz]
    have hwas7 : mm w7 (sz w6) = rcV r (.slice l6 r.list.length c6) := by rw [G67.mm (by omega) (by simp), hwas]
    have hr7 := hr56.fr0 F67
    have hr67 := hr6.fr0 F67
    have h65 := h6.sz5
    have hCS : ChS w7 (sz w) (sz w6 + 1) r (.slice l1 r.list.length c1) := ⟨h8.p, h8.pz, ho7, hoz7, by omega, hr7, fun k hk => by
      have hk' := hown k hk
      have := hown2 k hk
      constructor <;> omega⟩
    have hix : pIndex P 123 (.agg (chT s1 s2 s3 s4 s5).toArray) (i64 a.kind) w7 = some (gt (chT s1 s2 s3 s4 s5) a.kind.toNat, w7) := by
      have kk2 := hok.k21
      have hcl : (chT s1 s2 s3 s4 s5).length = 22 := rfl
      rw [pIndex_arr_scal arrE123 tyOk122 isAggB122 (by omega) (by omega) (by rw [cellsOf122]; simp [hcl]; omega)]
      rw [cellsOf122]
      simp
    try simp (maxDischargeDepth := 8) [↓sC, sB, sM, e3, e5, h8.s, a14, hix]
    refine chAny hCS hfit haI hon htab ?_
    rintro _ w8 ⟨rfl, f8, hch⟩
    have hQ : ApQ w (sz w) true w8 := h8.toQ.to f8 (by intro k hk; simp at hk; omega) (Nat.le_refl _)
    have hrm : ∀ {v : Value} {m : Nat} {cs : List Value}, RdV w7 v m cs → (∀ k, v.ownBlock = some k → k ≠ sz w ∧ k ≠ sz w6 + 1) → RdV w8 v m cs := fun hr' hk' => hr'.fr f8 (fun k hk hm => by have := hk' k hk; simp at hm; omega)
    rcases (Decidable.em ((changeM r a).2.code = 0)).symm with hc | hc
    · have hce := ch_err hfit.1.k1 hon hc
      obtain ⟨kc, hkc⟩ : ∃ kc, kc = (changeM r a).2.code := ⟨_, rfl⟩
      rw [← hkc] at hce hc ⊢
      rw [hce] at hres
      have hwas8 : mm w8 (sz w6) = rcV r (.slice l6 r.list.length c6) := by
        rw [f8.mm (by have := G67.size; omega) (by simp; omega), hwas7]
      obtain ⟨W8, W9, hE⟩ := (hQ.to (Fr.refl [] w8).drew (by simp) (Nat.le_refl _)).done (Nat.le_refl _) r (.slice l6 r.list.length c6) (anC kc) (.slice none 0 0)
      try simp (maxDischargeDepth := 8) [↓sC, sB, sM, hc]
      refine drawE_of (fun e' w' => w' = W9 ∧ e' 6 = pt (sz w + 1 + 1 + 1) 0 ∧ e' 7 = .bool true ∧ e' 8 = pt (sz w + 1 + 1 + 1 + 1) 0) ?_ ?_
      · intro k' kp' hkk
        try simp (maxDischargeDepth := 8) [↓sC, sB, sM, e4, e6, e8, hwas8, hQ.q, hQ.rr, hQ.rz', hQ.ra, hQ.raz, t8, bf49_code, hspz, rcV_oneT, len8, ← hE.e8, hE.a1, hE.a2, hE.a3, hsa, anV_oneT, anZ_len, len10, ← hE.e9]
        repeat' apply And.intro
        all_goals (refine hkk _ _ ?_; exact ⟨rfl, by simp [put_get, e6], by simp [put_get], by simp [put_get, e8]⟩)
      · rintro e' w' ⟨rfl, e6', e7', e8'⟩
        try simp (maxDischargeDepth := 8) [↓sC, sB, sM, e6', e7', e8', hE.b1, hE.b2, t8, t10]
        rw [hres]
        have hr68 : IsRec w8 (.slice l6 r.list.length c6) r := ⟨hrm hr67.1 (fun k hk => by have := hk6 k hk; omega), hr67.2⟩
        exact ⟨r, l6, c6, none, 0, rfl, (fun x hx => by cases hx; rfl), ⟨hE.rd (hr68.fr0 ((Fr.refl [] w8).drew)).1 (fun k hk => by have := hk6 k hk; omega), hr68.2⟩, isRec_rz, fun k hk => by have := hk6 k hk; omega, by simp [Value.ownBlock], hE.fr⟩
    · obtain ⟨l9, c9, l10, c10, q1, q2, q3, q4, q5, q6⟩ := (hch hc).get
      obtain ⟨r9, hr9⟩ : ∃ r9, r9 = (changeM r a).1 := ⟨_, rfl⟩
      obtain ⟨an, han⟩ : ∃ an, an = (changeM r a).2 := ⟨_, rfl⟩
      rw [← hr9] at q1 q2 q5 hres
      rw [← han] at q3 q4 q6 hres
      have own9 : ∀ k, (Value.slice l9 r9.list.length c9).ownBlock = some k → sz w + 5 ≤ k := fun k hk => by
        rcases q5 k hk with h' | h'
        · exact hown k h'
        · have := G67.size; omega
      have own10 : ∀ k, (Value.slice l10 an.rec'.list.length c10).ownBlock = some k → sz w + 5 ≤ k := fun k hk => by
        have := q6 k hk; have := G67.size; omega
      obtain ⟨W8, W9, hE⟩ := (hQ.to (Fr.refl [] w8).drew (by simp) (Nat.le_refl _)).done (Nat.le_refl _) r9 (.slice l9 r9.list.length c9) an (.slice l10 an.rec'.list.length c10)
      have ho8 : mm W8 (sz w6 + 1) = anV an (.slice l10 an.rec'.list.length c10) := by
        rw [hE.e8, mm_wr_ne (by omega)]; exact q3
      have hspz9 : splice (rcV rz (.slice none 0 0)) 0 (rcV r9 (.slice l9 r9.list.length c9)) = rcV r9 (.slice l9 r9.list.length c9) := splice_full rfl
      try simp (maxDischargeDepth := 8) [↓sC, sB, sM, hc, e3, e4, e6, e8, q1, q3, hQ.q, hQ.rr, hQ.rz', hQ.ra, hQ.raz, t8, t10, hspz, rcV_oneT, len8, ← hE.e8, hE.a1, hE.a2, hE.a3, ho8, hsa, anV_oneT, anZ_len, len10, ← hE.e9, hE.b1, hE.b2]
      rw [hres]
      exact ⟨r9, l9, c9, l10, c10, rfl, (fun x hx => by cases hx; rfl), ⟨hE.rd (q2.fr0 ((Fr.refl [] w8).drew)).1 own9, q2.2⟩, ⟨hE.rd (q4.fr0 ((Fr.refl [] w8).drew)).1 own10, q4.2⟩, fun k hk => by have := own9 k hk; omega, fun k hk => by have := own10 k hk; omega, hE.fr⟩
end Go.Proofs.YtieejbkbdfccdaaDoor

set_option linter.unusedVariables false
set_option linter.unusedSimpArgs false
namespace Go.Proofs.YtieejbkbdfccdaaDoor
open Go

theorem only_ok {w : World} {r : RecP} {a : Option Addr} {c : Nat} {s : List UInt8} (hs : fiveS s) (hr : okR r) (hP : onlyP r s) :
    Ret P 63 #[.agg (rcV r (.slice a r.list.length c)).toArray, strB s] w fun v w' => v = .bool true ∧ Fr [] w w' := by
  refine F63ok ?_
  unfold F63
  obtain ⟨W, hW⟩ : ∃ W, W = nw w (rcV r (.slice a r.list.length c)) 25 := ⟨_, rfl⟩
  have fW : Fr [] w W := by rw [hW]; exact (Fr.refl [] w).nw _ _
  have hm : mm W (sz w) = rcV r (.slice a r.list.length c) := by rw [hW]; simp [mm_nw]
  try simp (maxDischargeDepth := 8) [↓sC, sB, sM, rcC, ← hW]
  refine loopE_of (OnlyI W s (sz w)) s.length ⟨0, by omega, by omega, by simp [put_get], by simp [put_get, argE_get], by simp [put_get], by simp [put_get], by simp [put_get], by simp [put_get], by simp [put_get], by simp [put_get], rfl⟩ ?_
  rintro m e w2 hI
  obtain ⟨j, rfl, hj, e10, e1, e2, e5, e6, e7, e8, e9, rfl⟩ := id hI
  by_cases hjl : j < s.length
  · exact only_step hs hjl hI fun e' w'' hK => ⟨s.length - (j + 1), by omega, hK⟩
  have : j = s.length := by omega
  subst this
  unfold F63B0
  have hlen : ∀ w, pBuiltin P .len #[9] 3 [strB s] w = some (i64 s.length, w) := fun w => len_strB und9
  try simp (maxDischargeDepth := 8) [↓sC, sB, sM, e10, e1, hlen]
  rw [List.take_length] at e5 e6 e7 e8 e9
  have hne : ∀ l w, pBin P .neq 9 true (strB l) (Value.string { data := #[] }) w = some (.bool (decide (l ≠ [])), w) := fun l w => ne_strB (m := [])
  have hll : ((r.list.length : Int) = 0) = (r.list = []) := by simp
  have hsW : sz w < sz w2 := by rw [hW, sz_nw]; omega
  clear hI hW hlen hj
  rcases hs with rfl | rfl | rfl | rfl | rfl
  · have c1 : r.num = 0 := by have hQ := hP; simp [onlyP] at hQ; simp [hQ]
    have c2 : r.low = 0 := by have hQ := hP; simp [onlyP] at hQ; simp [hQ]
    have c3 : r.high = 0 := by have hQ := hP; simp [onlyP] at hQ; simp [hQ]
    try simp (maxDischargeDepth := 8) [↓sC, sB, sM, e2, e5, e6, e7, e8, e9, hm, hne, hll, c1, c2, c3]
    refine (zero_spec hr.2.2.2.2.1).call ?_
    rintro _ w3 ⟨rfl, f3⟩
    have hm3 : mm w3 (sz w) = rcV r (.slice a r.list.length c) := by rw [f3.mm (by omega) (by simp), hm]
    have c4 : key r.real = key 0 := by have hQ := hP; simp [onlyP] at hQ; simp [hQ]
    have c5 : r.cap = 0 := by have hQ := hP; simp [onlyP] at hQ; simp [hQ]
    have c6 : r.list = [] := by have hQ := hP; simp [onlyP] at hQ; simp [hQ]
    try simp (maxDischargeDepth := 8) [↓sC, sB, sM, e2, e5, e6, e7, e8, e9, hm3, hne, hll, c1, c2, c3, c4, c5, c6]
    exact fW.trans0 f3
  · have c1 : r.text = [] := by have hQ := hP; simp [onlyP] at hQ; simp [hQ]
    have c2 : r.low = 0 := by have hQ := hP; simp [onlyP] at hQ; simp [hQ]
    have c3 : r.high = 0 := by have hQ := hP; simp [onlyP] at hQ; simp [hQ]
    try simp (maxDischargeDepth := 8) [↓sC, sB, sM, e2, e5, e6, e7, e8, e9, hm, hne, hll, c1, c2, c3]
    refine (zero_spec hr.2.2.2.2.1).call ?_
    rintro _ w3 ⟨rfl, f3⟩
    have hm3 : mm w3 (sz w) = rcV r (.slice a r.list.length c) := by rw [f3.mm (by omega) (by simp), hm]
    have c4 : key r.real = key 0 := by have hQ := hP; simp [onlyP] at hQ; simp [hQ]
    have c5 : r.cap = 0 := by have hQ := hP; simp [onlyP] at hQ; simp [hQ]
    have c6 : r.list = [] := by have hQ := hP; simp [onlyP] at hQ; simp [hQ]
    try simp (maxDischargeDepth := 8) [↓sC, sB, sM, e2, e5, e6, e7, e8, e9, hm3, hne, hll, c1, c2, c3, c4, c5, c6]
    exact fW.trans0 f3
  · have c1 : r.text = [] := by have hQ := hP; simp [onlyP] at hQ; simp [hQ]
    try simp (maxDischargeDepth := 8) [↓sC, sB, sM, e2, e5, e6, e7, e8, e9, hm, hne, hll, c1]
    refine (zero_spec hr.2.2.2.2.1).call ?_
    rintro _ w3 ⟨rfl, f3⟩
    have hm3 : mm w3 (sz w) = rcV r (.slice a r.list.length c) := by rw [f3.mm (by omega) (by simp), hm]
    have c2 : key r.real = key 0 := by have hQ := hP; simp [onlyP] at hQ; simp [hQ]
    have c3 : r.cap = 0 := by have hQ := hP; simp [onlyP] at hQ; simp [hQ]
    have c4 : r.list = [] := by have hQ := hP; simp [onlyP] at hQ; simp [hQ]
    try simp (maxDischargeDepth := 8) [↓sC, sB, sM, e2, e5, e6, e7, e8, e9, hm3, hne, hll, c1, c2, c3, c4]
    exact fW.trans0 f3
  · have c1 : r.text = [] := by have hQ := hP; simp [onlyP] at hQ; simp [hQ]
    have c2 : r.num = 0 := by have hQ := hP; simp [onlyP] at hQ; simp [hQ]
    have c3 : r.low = 0 := by have hQ := hP; simp [onlyP] at hQ; simp [hQ]
    have c4 : r.high = 0 := by have hQ := hP; simp [onlyP] at hQ; simp [hQ]
    have c5 : r.cap = 0 := by have hQ := hP; simp [onlyP] at hQ; simp [hQ]
    have c6 : r.list = [] := by have hQ := hP; simp [onlyP] at hQ; simp [hQ]
    try simp (maxDischargeDepth := 8) [↓sC, sB, sM, e2, e5, e6, e7, e8, e9, hm, hne, hll, c1, c2, c3, c4, c5, c6]
    exact fW
  · have c1 : r.text = [] := by have hQ := hP; simp [onlyP] at hQ; simp [hQ]
    have c2 : r.num = 0 := by have hQ := hP; simp [onlyP] at hQ; simp [hQ]
    have c3 : r.low = 0 := by have hQ := hP; simp [onlyP] at hQ; simp [hQ]
    have c4 : r.high = 0 := by have hQ := hP; simp [onlyP] at hQ; simp [hQ]
    try simp (maxDischargeDepth := 8) [↓sC, sB, sM, e2, e5, e6, e7, e8, e9, hm, hne, hll, c1, c2, c3, c4]
    refine (zero_spec hr.2.2.2.2.1).call ?_
    rintro _ w3 ⟨rfl, f3⟩
    have hm3 : mm w3 (sz w) = rcV r (.slice a r.list.length c) := by rw [f3.mm (by omega) (by simp), hm]
    have c5 : key r.real = key 0 := by have hQ := hP; simp [onlyP] at hQ; simp [hQ]
    try simp (maxDischargeDepth := 8) [↓sC, sB, sM, e2, e5, e6, e7, e8, e9, hm3, hne, hll, c1, c2, c3, c4, c5]
    exact fW.trans0 f3


theorem item_ok {w : World} {k : Int} {a : Option Addr} {c : Nat} {L : List ItemP} (hr : RdV w (.slice a L.length c) L.length (flat itemV L)) (hok : ∀ x ∈ L, okI x) (hL : L.length ≤ 1000000) {i : Nat} (hi : i < L.length) (hP : itemP k L i) :
    Ret P 65 #[i64 k, .slice a L.length c, i64 i] w fun v w' => v = i64 0 ∧ Fr [] w w' := by
  refine F65ok ?_
  unfold F65
  obtain ⟨x, hx⟩ : ∃ x, L[i]? = some x := ⟨_, List.getElem?_eq_getElem hi⟩
  have hxok := hok x (List.mem_of_getElem? hx)
  obtain ⟨b, o, c', hv, hb, hin, htk⟩ := flat_at hr (itemV_len L) (by omega) hx
  simp only [Value.slice.injEq] at hv
  obtain ⟨rfl, _, rfl⟩ := hv
  have hii : (i : Int) < L.length := by omega
  have hs2 : ∀ l : List Value, l.length = 2 → splice l 0 (itemV x) = itemV x := fun l hl => splice_full (by rw [hl]; rfl)
  obtain ⟨W, hW⟩ : ∃ W, W = wr (nw w [Value.float FloatKind.f64 0, Value.string ByteArray.empty] 80) (sz w) (itemV x) := ⟨_, rfl⟩
  have fW : Fr [] w W := by rw [hW]; exact ((Fr.refl [] w).nw _ _).wr (.inr (Nat.le_refl _)) _
  have hm : mm W (sz w) = itemV x := by rw [hW]; exact mm_wr_same (by simp [fz_nw]) _
  have hsW : sz w < sz W := by rw [hW, sz_wr, sz_nw]; omega
  have hlen : ∀ w, pBuiltin P .len #[9] 3 [strB x.name] w = some (i64 x.name.length, w) := fun w => len_strB und9
  try simp (maxDischargeDepth := 8) [↓sC, sB, sM, hii, hi, hin, htk, hs2, itemV_oneT, hlen, ← hW, hm]
  have c1 : x.name.length ≤ 16 := (hP x hx).1
  have c1i : ¬ (16 : Int) < x.name.length := by omega
  rcases Nat.eq_zero_or_pos i with i0 | i0
  · subst i0
    by_cases k8 : k = 8
    · subst k8
      try simp (maxDischargeDepth := 8) [↓sC, sB, sM, c1i, hm]
      refine (zero_spec hxok).call ?_
      rintro _ w1 ⟨rfl, f1⟩
      have hm1 : mm w1 (sz w) = itemV x := by rw [f1.mm hsW (by simp), hm]
      have z : key x.score = key 0 := (hP x hx).2.1 rfl
      try simp (maxDischargeDepth := 8) [↓sC, sB, sM, z, hm1]
      refine (refProper_spec hxok).call ?_
      rintro _ w2 ⟨rfl, f2⟩
      have hsf := (f1.trans0 f2).size
      have hm2 : mm w2 (sz w) = itemV x := by rw [(f1.trans0 f2).mm hsW (by simp), hm]
      have p : x.score = canon x.score := (hP x hx).2.2.1
      rw [decide_eq_true p]
      try simp (maxDischargeDepth := 8) [↓sC, sB, sM, hm2]
      exact ((fW.trans0 f1).trans0 f2).drew.drew
    · skip
      try simp (maxDischargeDepth := 8) [↓sC, sB, sM, c1i, k8, hm]
      have f1 : Fr [] W W := Fr.refl [] W
      have z : True := trivial
      refine (refProper_spec hxok).call ?_
      rintro _ w2 ⟨rfl, f2⟩
      have hsf := (f1.trans0 f2).size
      have hm2 : mm w2 (sz w) = itemV x := by rw [(f1.trans0 f2).mm hsW (by simp), hm]
      have p : x.score = canon x.score := (hP x hx).2.2.1
      rw [decide_eq_true p]
      try simp (maxDischargeDepth := 8) [↓sC, sB, sM, hm2, k8]
      exact ((fW.trans0 f1).trans0 f2).drew.drew
  · obtain ⟨y, hy⟩ : ∃ y, L[i - 1]? = some y := ⟨_, List.getElem?_eq_getElem (by omega)⟩
    have hyok := hok y (List.mem_of_getElem? hy)
    obtain ⟨b', o', c', hv, hb', hin', htk'⟩ := flat_at hr (itemV_len L) (by omega) hy
    simp only [Value.slice.injEq, Option.some.injEq, Addr.mk.injEq] at hv
    obtain ⟨⟨rfl, rfl, _⟩, _, rfl⟩ := hv
    have hwm : IntKind.i64.wrap ((i : Int) - 1) = ((i - 1 : Nat) : Int) := by rw [wrap64 (by omega) (by omega)]; omega
    have i0i : (0 : Int) < i := by omega
    have him : ((i - 1 : Nat) : Int) < L.length := by omega
    have him' : i - 1 < L.length := by omega
    have hlt : ∀ w, pBin P .lss 9 false (strB y.name) (strB x.name) w = some (.bool (Op.bytesLess y.name x.name), w) := fun w => lt_strB
    by_cases k8 : k = 8
    · subst k8
      try simp (maxDischargeDepth := 8) [↓sC, sB, sM, c1i, hm]
      refine (zero_spec hxok).call ?_
      rintro _ w1 ⟨rfl, f1⟩
      have hm1 : mm w1 (sz w) = itemV x := by rw [f1.mm hsW (by simp), hm]
      have z : key x.score = key 0 := (hP x hx).2.1 rfl
      try simp (maxDischargeDepth := 8) [↓sC, sB, sM, z, hm1]
      refine (refProper_spec hxok).call ?_
      rintro _ w2 ⟨rfl, f2⟩
      have hsf := (f1.trans0 f2).size
      have hm2 : mm w2 (sz w) = itemV x := by rw [(f1.trans0 f2).mm hsW (by simp), hm]
      have p : x.score = canon x.score := (hP x hx).2.2.1
      have q1 : o + (i - 1) * 2 + 2 ≤ (mm w2 b).length := by rw [((fW.trans0 f1).trans0 f2).mm hb (by simp)]; exact hin'
      have q2 : ((mm w2 b).drop (o + (i - 1) * 2)).take 2 = itemV y := by rw [((fW.trans0 f1).trans0 f2).mm hb (by simp)]; exact htk'
      have q3 : o + (i - 1) * 2 + 1 < (mm w2 b).length := by omega
      have q4 : gt (mm w2 b) (o + (i - 1) * 2 + 1) = strB y.name := by rw [cell_of q2 (by omega)]; rfl
      rw [decide_eq_true p]
      have hq : Op.bytesLess y.name x.name = true := ((hP x hx).2.2.2 y i0 hy).1 rfl
      try simp (maxDischargeDepth := 8) [↓sC, sB, sM, i0i, i0, hwm, him, him', hm2, q1, q2, q3, q4, hlt, hq]
      exact ((fW.trans0 f1).trans0 f2).drew.drew
    · skip
      try simp (maxDischargeDepth := 8) [↓sC, sB, sM, c1i, k8, hm]
      have f1 : Fr [] W W := Fr.refl [] W
      have z : True := trivial
      refine (refProper_spec hxok).call ?_
      rintro _ w2 ⟨rfl, f2⟩
      have hsf := (f1.trans0 f2).size
      have hm2 : mm w2 (sz w) = itemV x := by rw [(f1.trans0 f2).mm hsW (by simp), hm]
      have p : x.score = canon x.score := (hP x hx).2.2.1
      have q1 : o + (i - 1) * 2 + 2 ≤ (mm w2 b).length := by rw [((fW.trans0 f1).trans0 f2).mm hb (by simp)]; exact hin'
      have q2 : ((mm w2 b).drop (o + (i - 1) * 2)).take 2 = itemV y := by rw [((fW.trans0 f1).trans0 f2).mm hb (by simp)]; exact htk'
      have q3 : o + (i - 1) * 2 + 1 < (mm w2 b).length := by omega
      have q4 : gt (mm w2 b) (o + (i - 1) * 2 + 1) = strB y.name := by rw [cell_of q2 (by omega)]; rfl
      rw [decide_eq_true p]
      by_cases k9 : k = 9
      · subst k9
        try simp (maxDischargeDepth := 8) [↓sC, sB, sM, i0i, i0, hwm, him, him', hm2, q1, q2, q3, q4, hlt, k8]
        refine (ahead_spec hyok hxok).call ?_
        rintro _ w3 ⟨rfl, f3⟩
        have fin := (((fW.trans0 f1).trans0 f2).drew.drew).trans0 f3
        have hq : aheadB y x = true := ((hP x hx).2.2.2 y i0 hy).2 rfl
        try simp (maxDischargeDepth := 8) [↓sC, sB, sM, hq]
        exact fin
      · try simp (maxDischargeDepth := 8) [↓sC, sB, sM, i0i, i0, hwm, him, him', hm2, q1, q2, q3, q4, hlt, k8, k9]
        exact ((fW.trans0 f1).trans0 f2).drew.drew

theorem refCheck_listOk {w : World} {r : RecP} {a : Option Addr} {c : Nat} {b : Nat} (hall : ∀ i, i < r.list.length → itemP r.kind r.list i) (hb : sz w ≤ b) (hc : r.list.length ≤ 32) {e : Env} {w2 : World} (e1 : e 1 = pt b 0) (e4 : e 4 = i64 0) (hm : mm w2 b = rcV r (.slice a r.list.length c)) (hb2 : b < sz w2)
    (hr : IsRec w2 (.slice a r.list.length c) r) (hf : Fr [] w w2) {K : KT} (hok : ∀ e' w', Fr [] w w' → K (.exit 0) e' w') :
    loopE F32B0 e w2 K := by
  refine loopE_of (fun m e w' => ∃ j : Nat, m = r.list.length - j ∧ j ≤ r.list.length ∧ e 1 = pt b 0 ∧ e 4 = i64 j ∧ mm w' b = rcV r (.slice a r.list.length c) ∧ b < sz w' ∧ IsRec w' (.slice a r.list.length c) r ∧ Fr [] w w') r.list.length ⟨0, by omega, by omega, e1, e4, hm, hb2, hr, hf⟩ ?_
  rintro m e w3 ⟨j, rfl, hj, e1, e4, hm, hb2, hr, hf⟩
  unfold F32B0
  have hml : 0 + 7 < (mm w3 b).length := by rw [hm]; simp
  by_cases hjl : j < r.list.length
  · have hji : (j : Int) < r.list.length := by omega
    have hwj : IntKind.i64.wrap ((j : Int) + 1) = ((j + 1 : Nat) : Int) := wrap64 (by omega) (by omega)
    try simp (maxDischargeDepth := 8) [↓sC, sB, sM, e1, e4, hm, hji, hjl]
    refine (item_ok hr.1 hr.2.2.2.2.2.2.2 (by omega) hjl (hall j hjl)).call ?_
    rintro _ w4 ⟨rfl, f4⟩
    try simp (maxDischargeDepth := 8) [↓sC, sB, sM, hwj, e4, -Int.natCast_add]
    exact ⟨r.list.length - (j + 1), by omega, j + 1, rfl, by omega, by simp [put_get, e1], by simp [put_get], by rw [f4.mm hb2 (by simp), hm], f4.lt hb2, hr.fr0 f4, hf.trans0 f4⟩
  · have : j = r.list.length := by omega
    subst this
    try simp (maxDischargeDepth := 8) [↓sC, sB, sM, e1, e4, hm]
    exact hok _ _ hf

theorem refCheck_ok {w : World} {r : RecP} {a : Option Addr} {c : Nat} (hr : IsRec w (.slice a r.list.length c) r) (hP : RecOk r) :
    Ret P 32 #[.agg (rcV r (.slice a r.list.length c)).toArray] w fun v w' => v = i64 0 ∧ Fr [] w w' := by
  refine F32ok ?_
  unfold F32
  obtain ⟨W, hW⟩ : ∃ W, W = nw w (rcV r (.slice a r.list.length c)) 25 := ⟨_, rfl⟩
  have fW : Fr [] w W := by rw [hW]; exact (Fr.refl [] w).nw _ _
  have hm : mm W (sz w) = rcV r (.slice a r.list.length c) := by rw [hW]; simp [mm_nw]
  have hsW : sz w < sz W := by rw [hW, sz_nw]; omega
  have t8 : ∀ r lv, (rcV r lv).take 8 = rcV r lv := fun _ _ => rfl
  try simp (maxDischargeDepth := 8) [↓sC, sB, sM, rcC, ← hW, hm]
  have a1 : 1 ≤ r.kind := hP.k1
  have a1i : ¬ r.kind < 1 := by omega
  have a9 : r.kind ≤ 9 := hP.k9
  have a9i : ¬ 9 < r.kind := by omega
  try simp (maxDischargeDepth := 8) [↓sC, sB, sM, a1i, a9i, hm, t8]
  refine fields_spec.call ?_
  rintro _ w1 ⟨rfl, f1⟩
  have hm1 : mm w1 (sz w) = rcV r (.slice a r.list.length c) := by rw [f1.mm (by rw [sz_drew]; exact hsW) (by simp), mm_drew, hm]
  have g1 : Fr [] w w1 := fW.drew.trans0 f1
  have hs1 : sz w < sz w1 := f1.lt (by rw [sz_drew]; exact hsW)
  try simp (maxDischargeDepth := 8) [↓sC, sB, sM, hm1, t8]
  refine (only_ok (fields_five a1 a9) hr.2 hP.only).call ?_
  rintro _ w2 ⟨rfl, f2⟩
  have hm2 : mm w2 (sz w) = rcV r (.slice a r.list.length c) := by rw [f2.mm hs1 (by simp), hm1]
  have g2 := g1.trans0 f2
  have hs2 := f2.lt hs1
  have hlen : ∀ w, pBuiltin P .len #[9] 3 [strB r.text] w = some (i64 r.text.length, w) := fun w => len_strB und9
  try simp (maxDischargeDepth := 8) [↓sC, sB, sM, hm2]
  by_cases k1 : r.kind = 1
  · have k4 : ¬ r.kind = 4 := by omega
    have t1 : r.text.length ≤ 64 := hP.text k1
    have t1i : ¬ (64 : Int) < r.text.length := by omega
    try simp (maxDischargeDepth := 8) [↓sC, sB, sM, k1, t1i, hm2, hlen]
    refine (refProper_spec hr.2.2.2.2.2.1).call ?_
    rintro _ w3 ⟨rfl, f3⟩
    have hm3 : mm w3 (sz w) = rcV r (.slice a r.list.length c) := by rw [f3.mm hs2 (by simp), hm2]
    have g3 := g2.trans0 f3
    have hs3 := f3.lt hs2
    have p : r.real = canon r.real := hP.real
    rw [decide_eq_true p]
    have k8 : r.kind < 8 := by omega
    try simp (maxDischargeDepth := 8) [↓sC, sB, sM, hm3, k8, k1]
    exact g3
  by_cases k4 : r.kind = 4
  · have b1 : -MP ≤ r.low := (hP.bounds k4).1
    have b1i : ¬ r.low < -2305843009213693952 := by unfold MP at b1; omega
    have b2 : r.high ≤ MP := (hP.bounds k4).2.1
    have b2i : ¬ 2305843009213693952 < r.high := by unfold MP at b2; omega
    have b3 : r.low ≤ r.num := (hP.bounds k4).2.2.1
    have b3i : ¬ r.num < r.low := by omega
    have b4 : r.num ≤ r.high := (hP.bounds k4).2.2.2
    have b4i : ¬ r.high < r.num := by omega
    try simp (maxDischargeDepth := 8) [↓sC, sB, sM, k4, hm2, wneg_MP, b1i, b2i, b3i, b4i]
    refine (refProper_spec hr.2.2.2.2.2.1).call ?_
    rintro _ w3 ⟨rfl, f3⟩
    have hm3 : mm w3 (sz w) = rcV r (.slice a r.list.length c) := by rw [f3.mm hs2 (by simp), hm2]
    have g3 := g2.trans0 f3
    have hs3 := f3.lt hs2
    have p : r.real = canon r.real := hP.real
    rw [decide_eq_true p]
    have k8 : r.kind < 8 := by omega
    try simp (maxDischargeDepth := 8) [↓sC, sB, sM, hm3, k8, k4]
    exact g3
  try simp (maxDischargeDepth := 8) [↓sC, sB, sM, k1, k4, hm2]
  refine (refProper_spec hr.2.2.2.2.2.1).call ?_
  rintro _ w3 ⟨rfl, f3⟩
  have hm3 : mm w3 (sz w) = rcV r (.slice a r.list.length c) := by rw [f3.mm hs2 (by simp), hm2]
  have g3 := g2.trans0 f3
  have hs3 := f3.lt hs2
  have p : r.real = canon r.real := hP.real
  rw [decide_eq_true p]
  by_cases k8 : r.kind < 8
  · try simp (maxDischargeDepth := 8) [↓sC, sB, sM, hm3, k8]
    exact g3
  have q1 : 1 ≤ r.cap := (hP.cap (by omega)).1
  have q1i : ¬ r.cap < 1 := by omega
  have q2 : r.cap ≤ 32 := (hP.cap (by omega)).2.1
  have q2i : ¬ 32 < r.cap := by omega
  have q3 : (r.list.length : Int) ≤ r.cap := (hP.cap (by omega)).2.2.1
  have q3i : ¬ r.cap < (r.list.length : Int) := by omega
  try simp (maxDischargeDepth := 8) [↓sC, sB, sM, hm3, k8, q1i, q2i, q3i]
  have hl32 : r.list.length ≤ 32 := by omega
  refine refCheck_listOk (w := w) (r := r) (a := a) (c := c) (b := sz w) (hP.cap (by omega)).2.2.2 (Nat.le_refl _) hl32 (by simp [put_get]) (by simp [put_get]) hm3 hs3 (hr.fr0 g3) g3 (fun e' w' hf => ?_)
  try simp (maxDischargeDepth := 8) [↓sC, sB, sM]
  exact hf

end Go.Proofs.YtieejbkbdfccdaaDoor

set_option linter.unusedVariables false
set_option linter.unusedSimpArgs false
namespace Go.Proofs.YtieejbkbdfccdaaDoor
open Go

theorem name_spec {w : World} {k : Int} (hw : KW w) : Ret P 69 #[i64 k] w fun v w' => v = strB (kindF k).1 ∧ Fr [] w w' := by
  refine F69ok ?_
  unfold F69
  refine (of_spec hw).call ?_
  rintro _ w1 ⟨rfl, f1⟩
  have h : ∀ t w, pField P 97 (.agg (kindV t).toArray) 0 w = some (strB t.1, w) := fun t w => by
    have := fi97n0 (w := w) (a := (kindV t).toArray) (by simp [kindV])
    rw [this]; rfl
  try simp (maxDischargeDepth := 8) [↓sC, sB, sM, h]
  exact f1
theorem reads_spec {w : World} {k : Int} : Ret P 70 #[i64 k] w fun v w' => v = .bool (readsB k) ∧ Fr [] w w' := by
  refine F70ok ?_
  unfold F70
  by_cases h3 : k = 3
  · try simp (maxDischargeDepth := 8) [↓sC, sB, sM, h3]
    simp [readsB]
  by_cases h4 : k = 4
  · try simp (maxDischargeDepth := 8) [↓sC, sB, sM, h3, h4]
    simp [readsB]
  by_cases h9 : k = 9
  · try simp (maxDischargeDepth := 8) [↓sC, sB, sM, h3, h4, h9]
    simp [readsB]
  by_cases h12 : k = 12
  · try simp (maxDischargeDepth := 8) [↓sC, sB, sM, h3, h4, h9, h12]
    simp [readsB]
  by_cases h20 : k = 20
  · try simp (maxDischargeDepth := 8) [↓sC, sB, sM, h3, h4, h9, h12, h20]
    simp [readsB]
  try simp (maxDischargeDepth := 8) [↓sC, sB, sM, h3, h4, h9, h12, h20]
  simp [readsB, h3, h4, h9, h12, h20]
theorem name_ne {k : Int} (h1 : 1 ≤ k) (h2 : k ≤ 21) : ∀ w, pBin P .eql 9 true (strB (kindF k).1) (Value.string { data := #[] }) w = some (.bool false, w) := by
  intro w
  have h := eq_strB (P := P) (t := 9) (lit := true) (l := (kindF k).1) (m := []) (w := w)
  have hne : (kindF k).1 ≠ [] := by
    have : k = 1 ∨ k = 2 ∨ k = 3 ∨ k = 4 ∨ k = 5 ∨ k = 6 ∨ k = 7 ∨ k = 8 ∨ k = 9 ∨ k = 10 ∨ k = 11 ∨ k = 12 ∨ k = 13 ∨ k = 14 ∨ k = 15 ∨ k = 16 ∨ k = 17 ∨ k = 18 ∨ k = 19 ∨ k = 20 ∨ k = 21 := by omega
    rcases this with rfl | rfl | rfl | rfl | rfl | rfl | rfl | rfl | rfl | rfl | rfl | rfl | rfl | rfl | rfl | rfl | rfl | rfl | rfl | rfl | rfl <;> decide
  rw [decide_eq_false hne] at h
  exact h
set_option maxHeartbeats 2000000 in
theorem kinds_spec {w : World} {k l : Int} (hw : KW w) (hk1 : 1 ≤ k) (hk2 : k ≤ 21) (hl1 : 1 ≤ l) (hl2 : l ≤ 21) : Ret P 35 #[i64 k, i64 l] w fun v w' => v = .bool (kindsB k l) ∧ Fr [] w w' := by
  refine F35ok ?_
  unfold F35
  obtain ⟨kb, hkb⟩ : ∃ kb, kb = kindsB k l := ⟨_, rfl⟩
  rw [← hkb]
  have n1 := name_ne hk1 hk2
  have n2 := name_ne hl1 hl2
  refine (name_spec hw).call ?_
  rintro _ w1 ⟨rfl, f1⟩
  try simp (maxDischargeDepth := 8) [↓sC, sB, sM, n1]
  refine (name_spec (hw.fr0 f1)).call ?_
  rintro _ w2 ⟨rfl, f2⟩
  have g2 := f1.trans0 f2
  by_cases a1 : k ≤ 2
  · try simp (maxDischargeDepth := 8) [↓sC, sB, sM, n2, a1]
    exact ⟨by rw [hkb]; simp [kindsB, a1], g2⟩
  by_cases a2 : l ≤ 2
  · try simp (maxDischargeDepth := 8) [↓sC, sB, sM, n2, a1, a2]
    exact ⟨by rw [hkb]; simp [kindsB, a2], g2⟩
  have hun : kindsB k l = if (readsB k && readsB l) = true ∨ k = 3 ∨ l = 3 then true else if k = 4 ∨ l = 4 then false else if onK k ≠ onK l then true else decide (k = l ∧ (k = 7 ∨ k = 13 ∨ k = 14 ∨ k = 19 ∨ k = 21)) := by
    unfold kindsB; rw [if_neg (by omega)]
  try simp (maxDischargeDepth := 8) [↓sC, sB, sM, n2, a1, a2]
  refine reads_spec.call ?_
  rintro _ w3 ⟨rfl, f3⟩
  have g3 := g2.trans0 f3
  -- behind the reading ones
  have rest : ∀ (w4 : World), Fr [] w w4 → ¬ (readsB k && readsB l) = true → k ≠ 3 → l ≠ 3 → k ≠ 4 → l ≠ 4 → ∀ (r : Bool), True := fun _ _ _ _ _ _ _ _ => trivial
  have hun2 : (readsB k && readsB l) = true → kindsB k l = true := fun h => by rw [hun, if_pos (.inl h)]
  have hun3 : k = 3 ∨ l = 3 → kindsB k l = true := fun h => by rw [hun, if_pos (.inr h)]
  have hun4 : ¬ (readsB k && readsB l) = true → ¬ k = 3 → ¬ l = 3 → k = 4 ∨ l = 4 → kindsB k l = false := fun h h1 h2 h3 => by rw [hun, if_neg (by simp only [not_or]; exact ⟨h, h1, h2⟩), if_pos h3]
  have hun5 : ¬ (readsB k && readsB l) = true → ¬ k = 3 → ¬ l = 3 → ¬ k = 4 → ¬ l = 4 → onK k ≠ onK l → kindsB k l = true := fun h h1 h2 h3 h4 h5 => by rw [hun, if_neg (by simp only [not_or]; exact ⟨h, h1, h2⟩), if_neg (by omega), if_pos h5]
  have hun6 : ¬ (readsB k && readsB l) = true → ¬ k = 3 → ¬ l = 3 → ¬ k = 4 → ¬ l = 4 → onK k = onK l → kindsB k l = decide (k = l ∧ (k = 7 ∨ k = 13 ∨ k = 14 ∨ k = 19 ∨ k = 21)) := fun h h1 h2 h3 h4 h5 => by rw [hun, if_neg (by simp only [not_or]; exact ⟨h, h1, h2⟩), if_neg (by omega), if_neg (by simpa using h5)]
  cases hrk : readsB k
  · have hrd : ¬ (readsB k && readsB l) = true := (by rw [hrk]; simp)
    by_cases k3 : k = 3
    · try simp (maxDischargeDepth := 8) [↓sC, sB, sM, k3]
      exact ⟨by rw [hkb]; exact hun3 (.inl k3), g3⟩
    by_cases l3 : l = 3
    · try simp (maxDischargeDepth := 8) [↓sC, sB, sM, k3, l3]
      exact ⟨by rw [hkb]; exact hun3 (.inr l3), g3⟩
    by_cases k4 : k = 4
    · try simp (maxDischargeDepth := 8) [↓sC, sB, sM, k3, l3, k4]
      exact ⟨by rw [hkb]; exact hun4 hrd k3 l3 (.inl k4), g3⟩
    by_cases l4 : l = 4
    · try simp (maxDischargeDepth := 8) [↓sC, sB, sM, k3, l3, k4, l4]
      exact ⟨by rw [hkb]; exact hun4 hrd k3 l3 (.inr l4), g3⟩
    try simp (maxDischargeDepth := 8) [↓sC, sB, sM, k3, l3, k4, l4]
    refine (actOn_spec (hw.fr0 g3)).call ?_
    rintro _ w5 ⟨rfl, f5⟩
    refine (actOn_spec (hw.fr0 (g3.trans0 f5))).call ?_
    rintro _ w6 ⟨rfl, f6⟩
    have g6 := (g3.trans0 f5).trans0 f6
    by_cases hon : onK k = onK l
    rotate_left
    · have hon' : ¬ (kindF k).2.1 = (kindF l).2.1 := hon
      try simp (maxDischargeDepth := 8) [↓sC, sB, sM, hon']
      exact ⟨by rw [hkb]; exact hun5 hrd k3 l3 k4 l4 hon, g6⟩
    have hon' : (kindF k).2.1 = (kindF l).2.1 := hon
    have hu := hun6 hrd k3 l3 k4 l4 hon
    by_cases e : k = l
    rotate_left
    · try simp (maxDischargeDepth := 8) [↓sC, sB, sM, hon', e]
      exact ⟨by rw [hkb, hu]; simp [e], g6⟩
    by_cases e7 : l = 7
    · try simp (maxDischargeDepth := 8) [↓sC, sB, sM, hon', e, e7]
      exact ⟨by rw [hkb, hu]; simp [e, e7], g6⟩
    by_cases e13 : l = 13
    · try simp (maxDischargeDepth := 8) [↓sC, sB, sM, hon', e, e7, e13]
      exact ⟨by rw [hkb, hu]; simp [e, e13], g6⟩
    by_cases e14 : l = 14
    · try simp (maxDischargeDepth := 8) [↓sC, sB, sM, hon', e, e7, e13, e14]
      exact ⟨by rw [hkb, hu]; simp [e, e14], g6⟩
    by_cases e19 : l = 19
    · try simp (maxDischargeDepth := 8) [↓sC, sB, sM, hon', e, e7, e13, e14, e19]
      exact ⟨by rw [hkb, hu]; simp [e, e19], g6⟩
    by_cases e21 : l = 21
    · try simp (maxDischargeDepth := 8) [↓sC, sB, sM, hon', e, e7, e13, e14, e19, e21]
      exact ⟨by rw [hkb, hu]; simp [e, e21], g6⟩
    try simp (maxDischargeDepth := 8) [↓sC, sB, sM, hon', e, e7, e13, e14, e19, e21]
    exact ⟨by rw [hkb, hu]; simp [e, e7, e13, e14, e19, e21], g6⟩
  · try simp (maxDischargeDepth := 8) [↓sC, sB, sM]
    refine reads_spec.call ?_
    rintro _ w4 ⟨rfl, f4⟩
    have g4 := g3.trans0 f4
    cases hrl : readsB l
    · have hrd : ¬ (readsB k && readsB l) = true := (by rw [hrl]; simp)
      by_cases k3 : k = 3
      · try simp (maxDischargeDepth := 8) [↓sC, sB, sM, k3]
        exact ⟨by rw [hkb]; exact hun3 (.inl k3), g4⟩
      by_cases l3 : l = 3
      · try simp (maxDischargeDepth := 8) [↓sC, sB, sM, k3, l3]
        exact ⟨by rw [hkb]; exact hun3 (.inr l3), g4⟩
      by_cases k4 : k = 4
      · try simp (maxDischargeDepth := 8) [↓sC, sB, sM, k3, l3, k4]
        exact ⟨by rw [hkb]; exact hun4 hrd k3 l3 (.inl k4), g4⟩
      by_cases l4 : l = 4
      · try simp (maxDischargeDepth := 8) [↓sC, sB, sM, k3, l3, k4, l4]
        exact ⟨by rw [hkb]; exact hun4 hrd k3 l3 (.inr l4), g4⟩
      try simp (maxDischargeDepth := 8) [↓sC, sB, sM, k3, l3, k4, l4]
      refine (actOn_spec (hw.fr0 g4)).call ?_
      rintro _ w5 ⟨rfl, f5⟩
      refine (actOn_spec (hw.fr0 (g4.trans0 f5))).call ?_
      rintro _ w6 ⟨rfl, f6⟩
      have g6 := (g4.trans0 f5).trans0 f6
      by_cases hon : onK k = onK l
      rotate_left
      · have hon' : ¬ (kindF k).2.1 = (kindF l).2.1 := hon
        try simp (maxDischargeDepth := 8) [↓sC, sB, sM, hon']
        exact ⟨by rw [hkb]; exact hun5 hrd k3 l3 k4 l4 hon, g6⟩
      have hon' : (kindF k).2.1 = (kindF l).2.1 := hon
      have hu := hun6 hrd k3 l3 k4 l4 hon
      by_cases e : k = l
      rotate_left
      · try simp (maxDischargeDepth := 8) [↓sC, sB, sM, hon', e]
        exact ⟨by rw [hkb, hu]; simp [e], g6⟩
      by_cases e7 : l = 7
      · try simp (maxDischargeDepth := 8) [↓sC, sB, sM, hon', e, e7]
        exact ⟨by rw [hkb, hu]; simp [e, e7], g6⟩
      by_cases e13 : l = 13
      · try simp (maxDischargeDepth := 8) [↓sC, sB, sM, hon', e, e7, e13]
        exact ⟨by rw [hkb, hu]; simp [e, e13], g6⟩
      by_cases e14 : l = 14
      · try simp (maxDischargeDepth := 8) [↓sC, sB, sM, hon', e, e7, e13, e14]
        exact ⟨by rw [hkb, hu]; simp [e, e14], g6⟩
      by_cases e19 : l = 19
      · try simp (maxDischargeDepth := 8) [↓sC, sB, sM, hon', e, e7, e13, e14, e19]
        exact ⟨by rw [hkb, hu]; simp [e, e19], g6⟩
      by_cases e21 : l = 21
      · try simp (maxDischargeDepth := 8) [↓sC, sB, sM, hon', e, e7, e13, e14, e19, e21]
        exact ⟨by rw [hkb, hu]; simp [e, e21], g6⟩
      try simp (maxDischargeDepth := 8) [↓sC, sB, sM, hon', e, e7, e13, e14, e19, e21]
      exact ⟨by rw [hkb, hu]; simp [e, e7, e13, e14, e19, e21], g6⟩
    · try simp (maxDischargeDepth := 8) [↓sC, sB, sM]
      exact ⟨by rw [hkb]; exact hun2 (by rw [hrk, hrl]; rfl), g4⟩
theorem commute_spec {w : World} {a b : ActP} {la lb : Option Addr} {n c m d : Nat} (hw : KW w) (ha1 : 1 ≤ a.kind) (ha2 : a.kind ≤ 21) (hb1 : 1 ≤ b.kind) (hb2 : b.kind ≤ 21) :
    Ret P 11 #[.agg (acV a (.slice la n c)).toArray, .agg (acV b (.slice lb m d)).toArray] w fun v w' => v = .bool (commB a b) ∧ Fr [] w w' := by
  refine F11ok ?_
  unfold F11
  obtain ⟨W, hW⟩ : ∃ W, W = nw (nw w (acV a (.slice la n c)) 27) (acV b (.slice lb m d)) 27 := ⟨_, rfl⟩
  have fW : Fr [] w W := by rw [hW]; exact ((Fr.refl [] w).nw _ _).nw _ _
  have hs : sz W = sz w + 2 := by rw [hW]; simp [sz_nw]
  have m1 : mm W (sz w) = acV a (.slice la n c) := by rw [hW]; simp [mm_nw, sz_nw]
  have m2 : mm W (sz w + 1) = acV b (.slice lb m d) := by rw [hW]; simp [mm_nw, sz_nw]
  have hne : ∀ w, pBin P .neq 9 false (strB a.key) (strB b.key) w = some (.bool (decide (a.key ≠ b.key)), w) := fun w => ne_strB
  generalize hkd : decide (a.key ≠ b.key) = kd at hne
  by_cases hk : a.key = b.key
  · have hkf : kd = false := by rw [← hkd]; simpa using hk
    rw [hkf] at hne
    try simp (maxDischargeDepth := 8) [↓sC, sB, sM, acC, ← hW, m1, m2, hne]
    refine (kinds_spec (hw.fr0 fW) ha1 ha2 hb1 hb2).call ?_
    rintro _ w1 ⟨rfl, f1⟩
    try simp (maxDischargeDepth := 8) [↓sC, sB, sM]
    exact ⟨by simp [commB, hk], fW.trans0 f1⟩
  · have hkf : kd = true := by rw [← hkd]; simpa using hk
    rw [hkf] at hne
    try simp (maxDischargeDepth := 8) [↓sC, sB, sM, acC, ← hW, m1, m2, hne]
    exact ⟨by simp [commB, hk], fW⟩
def SmI (w0 : World) (p1 p2 : Nat) (r : RecP) (l1 l2 : Value) (m : Nat) (e : Env) (w' : World) : Prop :=
  ∃ j : Nat, m = r.list.length - j ∧ j ≤ r.list.length ∧ mm w' p1 = rcV r l1 ∧ mm w' p2 = rcV r l2 ∧ p1 < sz w' ∧ p2 < sz w' ∧ Fr [] w0 w' ∧ e 2 = pt p1 0 ∧ e 3 = pt p2 0 ∧ e 5 = i64 j
set_option maxHeartbeats 2000000 in
theorem same14_spec {w : World} {r : RecP} {a b : Option Addr} {c d : Nat} (h1 : IsRec w (.slice a r.list.length c) r) (h2 : IsRec w (.slice b r.list.length d) r) (hl : r.list.length ≤ 1000000) :
    Ret P 14 #[.agg (rcV r (.slice a r.list.length c)).toArray, .agg (rcV r (.slice b r.list.length d)).toArray] w fun v w' => v = .bool true ∧ Fr [] w w' := by
  refine F14ok ?_
  unfold F14
  obtain ⟨W, hW⟩ : ∃ W, W = nw (nw w (rcV r (.slice a r.list.length c)) 25) (rcV r (.slice b r.list.length d)) 25 := ⟨_, rfl⟩
  have fW : Fr [] w W := by rw [hW]; exact ((Fr.refl [] w).nw _ _).nw _ _
  have hs : sz W = sz w + 2 := by rw [hW]; simp [sz_nw]
  have m1 : mm W (sz w) = rcV r (.slice a r.list.length c) := by rw [hW]; simp [mm_nw, sz_nw]
  have m2 : mm W (sz w + 1) = rcV r (.slice b r.list.length d) := by rw [hW]; simp [mm_nw, sz_nw]
  have hne : ∀ l w, pBin P .neq 9 false (strB l) (strB l) w = some (.bool false, w) := fun l w => by
    have := ne_strB (P := P) (t := 9) (lit := false) (l := l) (m := l) (w := w)
    simpa using this
  try simp (maxDischargeDepth := 8) [↓sC, sB, sM, rcC, ← hW, m1, m2, hne]
  refine (refSame_spec h1.2.2.2.2.2.1 h1.2.2.2.2.2.1).call ?_
  rintro _ w1 ⟨rfl, f1⟩
  have n1 : mm w1 (sz w) = rcV r (.slice a r.list.length c) := by rw [f1.mm (by omega) (by simp), m1]
  have n2 : mm w1 (sz w + 1) = rcV r (.slice b r.list.length d) := by rw [f1.mm (by omega) (by simp), m2]
  have hs1 := f1.size
  try simp (maxDischargeDepth := 8) [↓sC, sB, sM, n1, n2]
  refine loopE_of (SmI w (sz w) (sz w + 1) r (.slice a r.list.length c) (.slice b r.list.length d)) r.list.length ⟨0, by omega, by omega, n1, n2, by omega, by omega, fW.trans0 f1, by simp [put_get], by simp [put_get], by simp [put_get]⟩ ?_
  rintro m e w2 ⟨j, rfl, hj, q1, q2, b1, b2, hf, e2, e3, e5⟩
  unfold F14B0
  by_cases hjl : j < r.list.length
  · have hji : (j : Int) < r.list.length := by omega
    have hwj : IntKind.i64.wrap ((j : Int) + 1) = ((j + 1 : Nat) : Int) := wrap64 (by omega) (by omega)
    obtain ⟨x, hx⟩ : ∃ x, r.list[j]? = some x := ⟨_, List.getElem?_eq_getElem hjl⟩
    have hxok := h1.2.2.2.2.2.2.2 x (List.mem_of_getElem? hx)
    obtain ⟨b', o, c', hv, hb, hin, htk⟩ := flat_at (h1.1.fr0 hf) (itemV_len _) (by omega) hx
    simp only [Value.slice.injEq] at hv
    obtain ⟨rfl, _, rfl⟩ := hv
    obtain ⟨b'', o', c'', hv, hb', hin', htk'⟩ := flat_at (h2.1.fr0 hf) (itemV_len _) (by omega) hx
    simp only [Value.slice.injEq] at hv
    obtain ⟨rfl, _, rfl⟩ := hv
    have g0 : gt (mm w2 b') (o + j * 2 + 0) = fl x.score := by rw [cell_of htk (by omega)]; rfl
    have g1 : gt (mm w2 b') (o + j * 2 + 1) = strB x.name := by rw [cell_of htk (by omega)]; rfl
    have g0' : gt (mm w2 b'') (o' + j * 2 + 0) = fl x.score := by rw [cell_of htk' (by omega)]; rfl
    have g1' : gt (mm w2 b'') (o' + j * 2 + 1) = strB x.name := by rw [cell_of htk' (by omega)]; rfl
    have k0 : o + j * 2 + 0 < (mm w2 b').length := by omega
    have k1 : o + j * 2 + 1 < (mm w2 b').length := by omega
    have k0' : o' + j * 2 + 0 < (mm w2 b'').length := by omega
    have k1' : o' + j * 2 + 1 < (mm w2 b'').length := by omega
    simp only [Nat.add_zero] at g0 g0' k0 k0'
    try simp (maxDischargeDepth := 8) [↓sC, sB, sM, e2, e3, e5, q1, q2, hji, hjl, g0, g1, g0', g1', k0, k1, k0', k1', hne]
    refine (refSame_spec hxok hxok).call ?_
    rintro _ w3 ⟨rfl, f3⟩
    try simp (maxDischargeDepth := 8) [↓sC, sB, sM, e5, hwj, -Int.natCast_add]
    have F3 := hf.drew.trans0 f3
    have G3 : Fr [] w2 w3 := ((Fr.refl [] w2).drew).trans0 f3
    exact ⟨r.list.length - (j + 1), by omega, j + 1, rfl, by omega, by rw [G3.mm b1 (by simp), q1], by rw [G3.mm b2 (by simp), q2], G3.lt b1, G3.lt b2, F3, by simp [put_get, e2], by simp [put_get, e3], by simp [put_get]⟩
  · have : j = r.list.length := by omega
    subst this
    try simp (maxDischargeDepth := 8) [↓sC, sB, sM, e2, e3, e5, q1, q2]
    exact hf
theorem anC' {an : AnP} {lv : Value} : (Value.agg (anV an lv).toArray).cells.toList = anV an lv := rfl
theorem same15_spec {w : World} {an : AnP} {a b : Option Addr} {c d : Nat} (h1 : IsRec w (.slice a an.rec'.list.length c) an.rec') (h2 : IsRec w (.slice b an.rec'.list.length d) an.rec') (hl : an.rec'.list.length ≤ 1000000) :
    Ret P 15 #[.agg (anV an (.slice a an.rec'.list.length c)).toArray, .agg (anV an (.slice b an.rec'.list.length d)).toArray] w fun v w' => v = .bool true ∧ Fr [] w w' := by
  refine F15ok ?_
  unfold F15
  obtain ⟨W, hW⟩ : ∃ W, W = nw (nw w (anV an (.slice a an.rec'.list.length c)) 49) (anV an (.slice b an.rec'.list.length d)) 49 := ⟨_, rfl⟩
  have fW : Fr [] w W := by rw [hW]; exact ((Fr.refl [] w).nw _ _).nw _ _
  have hs : sz W = sz w + 2 := by rw [hW]; simp [sz_nw]
  have m1 : mm W (sz w) = anV an (.slice a an.rec'.list.length c) := by rw [hW]; simp [mm_nw, sz_nw]
  have m2 : mm W (sz w + 1) = anV an (.slice b an.rec'.list.length d) := by rw [hW]; simp [mm_nw, sz_nw]
  have g0 : ∀ lv, gt (anV an lv) 0 = i64 an.code := fun _ => rfl
  have g1 : ∀ lv, gt (anV an lv) 1 = i64 an.num := fun _ => rfl
  have gd : ∀ lv, ((anV an lv).drop 2).take 8 = rcV an.rec' lv := fun _ => rfl
  have len10 : ∀ lv, (anV an lv).length = 10 := fun _ => rfl
  try simp (maxDischargeDepth := 8) [↓sC, sB, sM, anC', ← hW, m1, m2, g0, g1, gd, len10]
  refine (same14_spec (h1.fr0 fW) (h2.fr0 fW) hl).call ?_
  rintro _ w1 ⟨rfl, f1⟩
  try simp (maxDischargeDepth := 8) [↓sC, sB, sM]
  exact fW.trans0 f1
end Go.Proofs.YtieejbkbdfccdaaDoor

set_option linter.unusedVariables false
set_option linter.unusedSimpArgs false
namespace Go.Proofs.YtieejbkbdfccdaaDoor
open Go
open Go.ChangeMaps (setBlock notKey putKey delKey mem_insert_iff heap_setBlock_same heap_setBlock_other)
open Go.WideElems (Fit rd rg pl rd_key rd_val rg_of)

def heldR : Value → Option (DataW Value × List MemPlace) := fun v => some (.held v, [])
theorem und9s : P.underlying 9 = some .string := by kernel_rfl
theorem keyed9 : Go.Maps.Keyed P 9 := Go.Maps.string_keyed und9s
theorem keyS {s : List UInt8} (h : s.length ≤ maxLen) : keyOf P 9 (strB s) = some (.string s) := by
  have := WideMaps.keyOf_string_mk (P := P) und9s (s := ⟨s.toArray⟩) (by rw [strB_size]; exact h)
  exact this
abbrev MpM := List UInt8 → Option Value
def updM (m : MpM) (k : List UInt8) (x : Option Value) : MpM := fun l => if l = k then x else m l
def MapW (w : World) (b n : Nat) (m : MpM) : Prop :=
  ∃ es clock, w.heap[b]? = some (.map es clock) ∧ Fit P 9 heldR es clock ∧ es.size ≤ n ∧ ∀ s v, m s = some v ↔ (Lit.string s, DataW.held v) ∈ es.toList.map (rg P 9 heldR)
theorem MapW.lt {w : World} {b n : Nat} {m : MpM} (h : MapW w b n m) : b < sz w := by
  obtain ⟨es, clock, hb, _⟩ := h
  exact (Array.getElem?_eq_some_iff.1 hb).1
theorem MapW.fr {w w' : World} {b n : Nat} {m : MpM} {S : List Nat} (h : MapW w b n m) (hf : Fr S w w') (hS : b ∉ S) : MapW w' b n m := by
  have hlt := h.lt
  obtain ⟨es, clock, hb, r⟩ := h
  exact ⟨es, clock, by rw [hf.block b hlt hS, hb], r⟩
theorem MapW.mono {w : World} {b n n' : Nat} {m : MpM} (h : MapW w b n m) (hn : n ≤ n') : MapW w b n' m := by
  obtain ⟨es, clock, hb, h1, h2, h3⟩ := h
  exact ⟨es, clock, hb, h1, Nat.le_trans h2 hn, h3⟩
theorem fr_set {w : World} {b : Nat} {es : Array MapEntry} {clock : Nat} (hb : w.heap[b]? = some (.map es clock)) (o : Obj) : Fr [b] w (setBlock w b o) :=
  ⟨rfl, rfl, by simp [sz, setBlock], fun c _ hc => heap_setBlock_other hb _ (by simpa using hc)⟩
/-- No key stands twice. -/
theorem one_key {es : Array MapEntry} {clock : Nat} (F : Fit P 9 heldR es clock) {s : List UInt8} {d d' : DataW Value} (h : (Lit.string s, d) ∈ es.toList.map (rg P 9 heldR)) (h' : (Lit.string s, d') ∈ es.toList.map (rg P 9 heldR)) : d = d' := by
  have hp := Go.Maps.fit_apart keyed9 F
  have gen : ∀ {l : List (Lit × DataW Value)}, l.Pairwise (fun p q => p.1 ≠ q.1) → ∀ {x y : Lit × DataW Value}, x ∈ l → y ∈ l → x.1 = y.1 → x = y := by
    intro l
    induction l with
    | nil => intro _ x y hx; simp at hx
    | cons a r ih =>
      intro hp x y hx hy he
      obtain ⟨h1, h2⟩ := List.pairwise_cons.1 hp
      rcases List.mem_cons.1 hx with ex | hx'
      · rcases List.mem_cons.1 hy with ey | hy'
        · rw [ex, ey]
        · exact absurd (ex ▸ he) (h1 y hy')
      · rcases List.mem_cons.1 hy with ey | hy'
        · exact absurd (ey ▸ he).symm (h1 x hx')
        · exact ih h2 hx' hy' he
  have := gen hp h h' rfl
  simpa using this
theorem map_make {w : World} : ∃ w', pMakeMap P 40 none w = some (.map (some (sz w)), w') ∧ MapW w' (sz w) 0 (fun _ => none) ∧ Fr [] w w' := by
  refine ⟨w.alloc (.map #[] 0), ?_, ?_, ?_⟩
  · simp [pMakeMap, runV, Instr.makeMap, newObj]
    rfl
  · exact ⟨#[], 0, (MapKept.heap_alloc w _).1, ⟨by simp, MapKept.stamped_empty 0, by simp⟩, Nat.le_refl _, by simp⟩
  · exact ⟨rfl, rfl, by show w.heap.size ≤ (w.heap.push _).size; rw [Array.size_push]; omega, fun b hb _ => (MapKept.heap_alloc w _).2 b hb⟩
theorem fit_rg {es : Array MapEntry} {clock : Nat} (F : Fit P 9 heldR es clock) {x : MapEntry} (hx : x ∈ es.toList) : ∃ k, keyOf P 9 x.key = some k ∧ rg P 9 heldR x = (k, .held x.val) := by
  obtain ⟨y, hy⟩ := F.reads x hx
  refine ⟨y.1, rd_key hy, ?_⟩
  rw [rg_of hy]
  obtain ⟨z, hz, e⟩ := rd_val hy
  simp only [heldR, Option.some.injEq] at hz
  subst hz
  cases y
  simp_all
theorem zero25 : (P.info? 25).bind (·.zero) = some (.agg (rcV rz (.slice none 0 0)).toArray) := by kernel_rfl
theorem run_zero25 (w : World) : (zeroValue 25).run P w = .ok (.agg (rcV rz (.slice none 0 0)).toArray) w := by
  obtain ⟨inf, hi⟩ := tyOk_info (P := P) tyOk25
  have hz := zero25
  rw [hi] at hz
  have hz' : inf.zero = some (.agg (rcV rz (.slice none 0 0)).toArray) := hz
  simp [zeroValue, typeInfo, hi, hz']
theorem map_look {w : World} {b n : Nat} {m : MpM} (h : MapW w b n m) {s : List UInt8} (hs : s.length ≤ maxLen) :
    pLookup P 40 (.map (some b)) (strB s) true w = some (match m s with | some v => .tuple #[v, .bool true] | none => .tuple #[.agg (rcV rz (.slice none 0 0)).toArray, .bool false], w) := by
  obtain ⟨es, clock, hb, F, hn, hm⟩ := h
  have hz := run_zero25 w
  rcases Go.Maps.fit_look (H := Value) true keyed9 und40 hz hb F (keyS hs) with ⟨hr, hno, _⟩ | ⟨e0, y, he, hk, hr, hv, _⟩
  · have hmn : m s = none := by
      cases hms : m s with
      | none => rfl
      | some v =>
        obtain ⟨x, hx, hxe⟩ := List.mem_map.1 ((hm s v).1 hms)
        obtain ⟨k, hk, hrg⟩ := fit_rg F hx
        rw [hrg] at hxe
        simp only [Prod.mk.injEq] at hxe
        have := keyed9.inj (hxe.1 ▸ hk) (keyS hs)
        exact absurd this (hno x hx)
    rw [hmn]
    unfold pLookup runV
    rw [hr]
    simp
  · have hms : m s = some e0.val := by
      rw [hm]
      obtain ⟨k, hk', hrg⟩ := fit_rg F he
      rw [hk, keyS hs] at hk'
      cases hk'
      exact List.mem_map.2 ⟨e0, he, hrg⟩
    rw [hms]
    unfold pLookup runV
    rw [hr]
    simp
theorem string_key (s : List UInt8) : WideAt.IsKeyLit (.string s) := trivial
theorem map_upd {w : World} {b n : Nat} {m : MpM} (h : MapW w b n m) (hn : n < maxLen) {s : List UInt8} (hs : s.length ≤ maxLen) (v : Value) :
    ∃ w', pMapUpdate P 40 (.map (some b)) (strB s) v w = some w' ∧ MapW w' b (n + 1) (updM m s (some v)) ∧ Fr [b] w w' := by
  obtain ⟨es, clock, hb, F, hn', hm⟩ := h
  obtain ⟨es', clock', hrun, F', hput, _⟩ := Go.Maps.fit_store (H := Value) (R := heldR) (R' := heldR) keyed9 und40 hb F (by omega) (key := strB s) (val := v) (kl := .string s) (yv := (.held v, [])) (fun _ _ _ _ hz => hz) (keyS hs) rfl
  have hmem : ∀ p, p ∈ es'.toList.map (rg P 9 heldR) ↔ p = (Lit.string s, DataW.held v) ∨ (p ∈ es.toList.map (rg P 9 heldR) ∧ p.1 ≠ .string s) := by
    intro p
    rw [← mem_sorted (l := es'.toList.map (rg P 9 heldR)), hput]
    unfold putKey
    rw [mem_insert_iff, List.mem_filter, mem_sorted, Go.Maps.notKey_iff (string_key s)]
  refine ⟨setBlock w b (.map es' clock'), ?_, ⟨es', clock', heap_setBlock_same hb _, F', ?_, ?_⟩, fr_set hb _⟩
  · unfold pMapUpdate runU
    rw [hrun]
  · have e1 : es'.size = ((es'.toList.map (rg P 9 heldR)).foldr DataW.insert []).length := by rw [length_sorted]; simp
    rw [e1, hput]
    unfold putKey
    rw [length_insert]
    have e2 := List.length_filter_le (notKey (.string s)) ((es.toList.map (rg P 9 heldR)).foldr DataW.insert [])
    rw [length_sorted] at e2
    simp at e2
    omega
  · intro t u
    rw [hmem]
    unfold updM
    by_cases ht : t = s
    · subst ht
      simp [eq_comm]
    · simp [ht, hm]
theorem map_del {w : World} {b n : Nat} {m : MpM} (h : MapW w b n m) {s : List UInt8} (hs : s.length ≤ maxLen) {ty : TypeId} :
    ∃ w', pBuiltin P .delete #[40, 9] ty [.map (some b), strB s] w = some (.tuple #[], w') ∧ MapW w' b n (updM m s none) ∧ Fr [b] w w' := by
  obtain ⟨es, clock, hb, F, hn', hm⟩ := h
  obtain ⟨es', hrun, F', hle, hdel, _⟩ := Go.Maps.fit_drop (H := Value) (ty := ty) keyed9 und40 hb F (key := strB s) (keyS hs)
  have hmem : ∀ p, p ∈ es'.toList.map (rg P 9 heldR) ↔ (p ∈ es.toList.map (rg P 9 heldR) ∧ p.1 ≠ .string s) := by
    intro p
    rw [← mem_sorted (l := es'.toList.map (rg P 9 heldR)), hdel]
    unfold delKey
    rw [List.mem_filter, mem_sorted, Go.Maps.notKey_iff (string_key s)]
  refine ⟨setBlock w b (.map es' clock), ?_, ⟨es', clock, heap_setBlock_same hb _, F', by omega, ?_⟩, fr_set hb _⟩
  · simp only [pBuiltin, runV]
    have h2 : (Builtin.delete_ #[40, 9] ty [Value.map (some b), strB s].toArray).run P w = .ok (.tuple #[]) (setBlock w b (.map es' clock)) := hrun
    rw [h2]
  · intro t u
    rw [hmem]
    unfold updM
    by_cases ht : t = s
    · subst ht; simp
    · simp [ht, hm]
/-- How many entries: what two maps of the same keys have alike. -/
theorem map_len {w w' : World} {b b' n n' : Nat} {m m' : MpM} (h : MapW w b n m) (h' : MapW w' b' n' m') (hd : ∀ s, (m s).isSome = (m' s).isSome) {ty : TypeId} :
    ∃ k : Nat, pBuiltin P .len #[40] ty [.map (some b)] w = some (i64 k, w) ∧ pBuiltin P .len #[40] ty [.map (some b')] w' = some (i64 k, w') := by
  obtain ⟨es, clock, hb, F, hn, hm⟩ := h
  obtain ⟨es', clock', hb', F', hn', hm'⟩ := h'
  have run : ∀ {w : World} {b : Nat} {es : Array MapEntry} {clock : Nat}, w.heap[b]? = some (.map es clock) → pBuiltin P .len #[40] ty [.map (some b)] w = some (i64 es.size, w) := by
    intro w b es clock hb
    have h2 : (Builtin.len_ #[40] ty #[.map (some b)]).run P w = .ok (.int .i64 es.size) w := by
      simp [Builtin.len_, run_underlying und40, MapKept.run_getObj_map hb, goInt, Result.andThen]
    simp only [pBuiltin, runV]
    have h3 : (Builtin.len_ #[40] ty [Value.map (some b)].toArray).run P w = .ok (.int .i64 es.size) w := h2
    rw [h3]
  have keys : ∀ {es : Array MapEntry} {clock : Nat}, Fit P 9 heldR es clock → ∀ p ∈ es.toList.map (rg P 9 heldR), ∃ s v, p = (Lit.string s, DataW.held v) := by
    intro es clock F p hp
    obtain ⟨x, hx, rfl⟩ := List.mem_map.1 hp
    obtain ⟨k, hk, hrg⟩ := fit_rg F hx
    obtain ⟨s, _, hs, _⟩ := WideMaps.string_of_keyOf und9s hk
    exact ⟨_, _, by rw [hrg, hs]⟩
  have perm : ((es.toList.map (rg P 9 heldR)).map (·.1)).Perm ((es'.toList.map (rg P 9 heldR)).map (·.1)) := by
    refine (List.perm_ext_iff_of_nodup ?_ ?_).2 ?_
    · exact List.pairwise_map.2 (Go.Maps.fit_apart keyed9 F)
    · exact List.pairwise_map.2 (Go.Maps.fit_apart keyed9 F')
    · intro l
      constructor
      · intro hl
        obtain ⟨p, hp, rfl⟩ := List.mem_map.1 hl
        obtain ⟨s, v, rfl⟩ := keys F p hp
        have h1 := (hm s v).2 hp
        have h2 := hd s
        rw [h1] at h2
        obtain ⟨v', hv'⟩ := Option.isSome_iff_exists.1 h2.symm
        exact List.mem_map.2 ⟨_, (hm' s v').1 hv', rfl⟩
      · intro hl
        obtain ⟨p, hp, rfl⟩ := List.mem_map.1 hl
        obtain ⟨s, v, rfl⟩ := keys F' p hp
        have h1 := (hm' s v).2 hp
        have h2 := hd s
        rw [h1] at h2
        obtain ⟨v', hv'⟩ := Option.isSome_iff_exists.1 h2
        exact List.mem_map.2 ⟨_, (hm s v').1 hv', rfl⟩
  have hl := perm.length_eq
  simp at hl
  exact ⟨es.size, run hb, by rw [hl]; exact run hb'⟩
/-- A loop over a map. -/
def RangeW (w : World) (b r n cnt : Nat) (m : MpM) : Prop :=
  ∃ (D : DataW Value) (left : Lit → Bool), w.ranges P 9 heldR b r n D left cnt ∧ MapW w b n m
theorem RangeW.fr {w w' : World} {b r n cnt : Nat} {m : MpM} {S : List Nat} (h : RangeW w b r n cnt m) (hf : Fr S w w') (hb : b ∉ S) (hr : r ∉ S) : RangeW w' b r n cnt m := by
  obtain ⟨D, left, hrg, hm⟩ := h
  have h2 := hrg.lt
  refine ⟨D, left, ?_, hm.fr hf hb⟩
  obtain ⟨es, clock, since, seen, c0, h1, F, hs, hD, h3, rest⟩ := hrg
  exact ⟨es, clock, since, seen, c0, (hf.block b (Array.getElem?_eq_some_iff.1 h1).1 hb).trans h1, F, hs, hD, (hf.block r h2 hr).trans h3, rest⟩
theorem fr_grown {w w' : World} {row : Option Nat} (h : w.grownBy w' row) : Fr row.toList w w' := Fr.of_grown h
theorem map_range {w : World} {b n : Nat} {m : MpM} (h : MapW w b n m) : ∃ w' cnt, pRange P 40 (.map (some b)) w = some (pt (sz w) 0, w') ∧ RangeW w' b (sz w) n cnt m ∧ Fr [] w w' := by
  obtain ⟨es, clock, hb, F, hn, hm⟩ := id h
  have ho : w.ownsMap P 9 heldR b n (.map ((es.toList.map (rg P 9 heldR)).foldr DataW.insert [])) := ⟨es, clock, hb, F, hn, rfl⟩
  obtain ⟨w', hrun, hrg, hg, _⟩ := ho.range keyed9 und40
  have hf : Fr [] w w' := fr_grown hg
  refine ⟨w', _, ?_, ⟨_, _, hrg, h.fr hf (by simp)⟩, hf⟩
  unfold pRange runV
  rw [hrun]; rfl
theorem map_next {w : World} {b r n cnt : Nat} {m : MpM} (h : RangeW w b r n cnt m) :
    (pNext P (pt r 0) false 0 w = some (.tuple #[.bool false], w)) ∨
    ∃ s v w' cnt', m s = some v ∧ s.length ≤ maxLen ∧ pNext P (pt r 0) false 0 w = some (.tuple #[.bool true, strB s, v], w') ∧ pEntry P (pt r 0) w' = some (.tuple #[strB s, v], w') ∧ RangeW w' b r n cnt' m ∧ cnt' < cnt ∧ Fr [r] w w' := by
  obtain ⟨D, left, hrg, hm⟩ := h
  have hne := hrg.ne
  have hrg' := hrg
  rcases hrg.next keyed9 0 with ⟨_, _, hrun⟩ | ⟨key, v, kl, y, w', cnt', hkey, hl, hy, hat, hrun, hrg2, hc, hg, _, hent⟩
  · left
    unfold pNext runV
    rw [hrun]
  · right
    have hf : Fr [r] w w' := by simpa using fr_grown hg
    obtain ⟨s0, rfl, hkl, hsz⟩ := WideMaps.string_of_keyOf und9s hkey
    have hkey2 : (Value.string s0) = strB s0.data.toList := rfl
    have hs : s0.data.toList.length ≤ maxLen := by simpa using hsz
    refine ⟨s0.data.toList, v, w', cnt', ?_, hs, ?_, ?_, ⟨D, _, hrg2, hm.fr hf (by simpa using fun e => hne e.symm)⟩, hc, hf⟩
    · obtain ⟨es, clock, hb, F, hn, hmm⟩ := hm
      obtain ⟨es2, clock2, since, seen, c0, hb2, F2, hs2, hD2, _⟩ := hrg'
      rw [hb] at hb2
      simp only [Option.some.injEq, Obj.map.injEq] at hb2
      obtain ⟨rfl, rfl⟩ := hb2
      have hyv : y.1 = .held v := by
        simp only [heldR, Option.some.injEq] at hy
        rw [← hy]
      rw [hkl] at hat
      rw [hD2] at hat
      rcases Go.Maps.fit_look (H := Value) true keyed9 und40 (run_zero25 w) hb F (keyS hs) with ⟨_, _, hz⟩ | ⟨e0, y0, he, hk, _, hv0, hz, _⟩
      · have h1 := hz .nil
        rw [hat .nil, hyv] at h1
        cases h1
      · rw [hmm]
        have h1 := hz .nil
        rw [hat .nil, hyv] at h1
        simp only [heldR, Option.some.injEq] at hv0
        rw [← hv0] at h1
        simp only [DataW.held.injEq] at h1
        obtain ⟨k, hk', hrg3⟩ := fit_rg F he
        rw [hk, keyS hs] at hk'
        cases hk'
        rw [h1]
        exact List.mem_map.2 ⟨e0, he, hrg3⟩
    · unfold pNext runV
      rw [hrun]; rfl
    · unfold pEntry runV
      rw [hent]; rfl
end Go.Proofs.YtieejbkbdfccdaaDoor

set_option linter.unusedVariables false
set_option linter.unusedSimpArgs false
namespace Go.Proofs.YtieejbkbdfccdaaDoor
open Go

theorem rd_frz {w w' : World} {S : List Nat} {v : Value} {n : Nat} {cs : List Value} (h : RdV w v n cs) (hf : Fr S w w') (hS : ∀ b, v.ownBlock = some b → b < sz w → b ∉ S) : RdV w' v n cs := by
  rcases h with h | ⟨b, o, c, rfl, h1, h2, h3, h4, h5⟩
  · exact .inl h
  · exact RdV.fr (.inr ⟨b, o, c, rfl, h1, h2, h3, h4, h5⟩) hf (fun k hk => by
      have : k = b := by simp [sl, Value.ownBlock] at hk; exact hk.symm
      exact hS k hk (by rw [this]; exact h3))
structure KeptP where
  key : List UInt8
  rec' : RecP
  la : Option Addr
  c : Nat
def keV (k : KeptP) : List Value := strB k.key :: rcV k.rec' (.slice k.la k.rec'.list.length k.c)
theorem keV_len : ∀ (L : List KeptP), ∀ p ∈ L, (keV p).length = 9 := fun _ _ _ => rfl
@[simp] theorem kelen {k : KeptP} : (keV k).length = 9 := rfl
@[simp] theorem keg0 {k : KeptP} : gt (keV k) 0 = strB k.key := rfl
theorem ked {k : KeptP} : ((keV k).drop 1).take 8 = rcV k.rec' (.slice k.la k.rec'.list.length k.c) := rfl
theorem ked' {k : KeptP} : (keV k).tail.take 8 = rcV k.rec' (.slice k.la k.rec'.list.length k.c) := rfl
theorem keV_oneT {k : KeptP} : (∀ v, v ∈ keV k → v.oneCell' = true) = True := by
  simp only [eq_iff_iff, iff_true, keV]
  intro v hv
  rcases List.mem_cons.1 hv with rfl | hv
  · exact oc_strB _
  · exact rcV_one v hv
def kz : KeptP := ⟨[], rz, none, 0⟩
def KeOk (w : World) (k : KeptP) : Prop := IsRec w (.slice k.la k.rec'.list.length k.c) k.rec'
open Classical in
noncomputable def ini1 (σ : StM) (k : KeptP) : StM := if RecOk k.rec' then updS σ k.key (some k.rec') else σ
noncomputable def initM (L : List KeptP) : StM := L.foldl ini1 (fun _ => none)
theorem init_snoc {L : List KeptP} {j : Nat} {k : KeptP} (h : L[j]? = some k) : initM (L.take (j + 1)) = ini1 (initM (L.take j)) k := by
  unfold initM
  rw [List.take_add_one, h, Option.toList_some, List.foldl_append]; rfl
theorem init_fit {L : List KeptP} (h : ∀ k ∈ L, okR k.rec') : FitS (initM L) := by
  have gen : ∀ (L : List KeptP) (σ : StM), FitS σ → (∀ k ∈ L, okR k.rec') → FitS (L.foldl ini1 σ) := by
    intro L
    induction L with
    | nil => intro σ h _; exact h
    | cons k L ih =>
      intro σ hσ hk
      refine ih _ ?_ fun k hk' => hk k (by simp [hk'])
      unfold ini1
      split
      · rename_i hr
        exact fit_upd hσ (fun r hr' => by cases hr'; exact ⟨hr, hk k (by simp)⟩)
      · exact hσ
  exact gen L _ (fun _ r hr => by cases hr) h
/-- The records that there are, in memory. -/
def StW (w : World) (mb n : Nat) (X : Nat → Prop) (σ : StM) : Prop :=
  ∃ m, MapW w mb n m ∧ ∀ s, (σ s = none → m s = none) ∧ ∀ r, σ s = some r → ∃ (l : Option Addr) (c : Nat), m s = some (.agg (rcV r (.slice l r.list.length c)).toArray) ∧ IsRec w (.slice l r.list.length c) r ∧ ∀ k, (Value.slice l r.list.length c).ownBlock = some k → X k
theorem StW.fr {w w' : World} {mb n : Nat} {X : Nat → Prop} {σ : StM} {S : List Nat} (h : StW w mb n X σ) (hf : Fr S w w') (hmb : mb ∉ S) (hX : ∀ k, X k → k < sz w → k ∉ S) : StW w' mb n X σ := by
  obtain ⟨m, hm, hs⟩ := h
  refine ⟨m, hm.fr hf hmb, fun s => ⟨(hs s).1, fun r hr => ?_⟩⟩
  obtain ⟨l, c, h1, h2, h3⟩ := (hs s).2 r hr
  exact ⟨l, c, h1, ⟨rd_frz h2.1 hf (fun k hk hlt => hX k (h3 k hk) hlt), h2.2⟩, h3⟩
theorem StW.fr0 {w w' : World} {mb n : Nat} {X : Nat → Prop} {σ : StM} (h : StW w mb n X σ) (hf : Fr [] w w') : StW w' mb n X σ := h.fr hf (by simp) (by simp)
theorem StW.weak {w : World} {mb n : Nat} {X Y : Nat → Prop} {σ : StM} (h : StW w mb n X σ) (hXY : ∀ k, X k → Y k) : StW w mb n Y σ := by
  obtain ⟨m, hm, hs⟩ := h
  refine ⟨m, hm, fun s => ⟨(hs s).1, fun r hr => ?_⟩⟩
  obtain ⟨l, c, h1, h2, h3⟩ := (hs s).2 r hr
  exact ⟨l, c, h1, h2, fun k hk => hXY k (h3 k hk)⟩
/-- An entry is put, or taken away, while the map alone turns. -/
theorem StW.put {w w' : World} {mb n n' : Nat} {X : Nat → Prop} {σ : StM} {m : MpM} (hm : MapW w mb n m) (hs : ∀ s, (σ s = none → m s = none) ∧ ∀ r, σ s = some r → ∃ (l : Option Addr) (c : Nat), m s = some (.agg (rcV r (.slice l r.list.length c)).toArray) ∧ IsRec w (.slice l r.list.length c) r ∧ ∀ k, (Value.slice l r.list.length c).ownBlock = some k → X k)
    {key : List UInt8} {r : RecP} {l : Option Addr} {c : Nat} (hm' : MapW w' mb n' (updM m key (some (.agg (rcV r (.slice l r.list.length c)).toArray)))) (hf : Fr [mb] w w') (hX : ∀ k, X k → k ≠ mb) (hr : IsRec w (.slice l r.list.length c) r) (hk : ∀ k, (Value.slice l r.list.length c).ownBlock = some k → X k) :
    StW w' mb n' X (updS σ key (some r)) := by
  refine ⟨_, hm', fun s => ?_⟩
  unfold updS updM
  by_cases h : s = key
  · simp only [h, if_true]
    refine ⟨fun h => (by cases h), fun r' hr' => ?_⟩
    cases hr'
    exact ⟨l, c, rfl, ⟨hr.1.fr hf (fun k hk' hmem => hX k (hk k hk') (by simpa using hmem)), hr.2⟩, hk⟩
  · simp only [h, if_false]
    refine ⟨(hs s).1, fun r' hr' => ?_⟩
    obtain ⟨l', c', h1, h2, h3⟩ := (hs s).2 r' hr'
    exact ⟨l', c', h1, ⟨h2.1.fr hf (fun k hk' hmem => hX k (h3 k hk') (by simpa using hmem)), h2.2⟩, h3⟩
theorem StW.del {w w' : World} {mb n n' : Nat} {X : Nat → Prop} {σ : StM} {m : MpM} (hs : ∀ s, (σ s = none → m s = none) ∧ ∀ r, σ s = some r → ∃ (l : Option Addr) (c : Nat), m s = some (.agg (rcV r (.slice l r.list.length c)).toArray) ∧ IsRec w (.slice l r.list.length c) r ∧ ∀ k, (Value.slice l r.list.length c).ownBlock = some k → X k)
    {key : List UInt8} (hm' : MapW w' mb n' (updM m key none)) (hf : Fr [mb] w w') (hX : ∀ k, X k → k ≠ mb) : StW w' mb n' X (updS σ key none) := by
  refine ⟨_, hm', fun s => ?_⟩
  unfold updS updM
  by_cases h : s = key
  · simp only [h, if_true]
    exact ⟨fun _ => trivial, fun r' hr' => by cases hr'⟩
  · simp only [h, if_false]
    refine ⟨(hs s).1, fun r' hr' => ?_⟩
    obtain ⟨l', c', h1, h2, h3⟩ := (hs s).2 r' hr'
    exact ⟨l', c', h1, ⟨h2.1.fr hf (fun k hk' hmem => hX k (h3 k hk') (by simpa using hmem)), h2.2⟩, h3⟩
def IniI (w0 : World) (mb : Nat) (kv av ov : Value) (KL : List KeptP) (m : Nat) (e : Env) (w' : World) : Prop :=
  ∃ j : Nat, m = KL.length - j ∧ j ≤ KL.length ∧ StW w' mb j (fun k => k ≠ mb ∧ k < sz w' ∧ sz w0 ≤ k) (initM (KL.take j)) ∧ sz w0 ≤ mb ∧ mb < sz w' ∧ Fr [] w0 w' ∧ e 8 = .map (some mb) ∧ e 20 = kv ∧ e 21 = i64 KL.length ∧ e 22 = i64 j ∧ e 1 = av ∧ e 2 = ov
set_option maxHeartbeats 2000000 in
theorem ini_step {w0 : World} {mb : Nat} {kv av ov : Value} {KL : List KeptP} (hkv : RdV w0 kv KL.length (flat keV KL)) (hko : ∀ k ∈ KL, KeOk w0 k) (hkk : ∀ k ∈ KL, k.key.length ≤ 100) (hl : KL.length ≤ 60) {j : Nat} {e : Env} {w1 : World} (hj : j < KL.length)
    (hI : IniI w0 mb kv av ov KL (KL.length - j) e w1) {K : KT} (hK : ∀ e' w'', IniI w0 mb kv av ov KL (KL.length - (j + 1)) e' w'' → K .normal e' w'') : F13B0 e w1 K := by
  obtain ⟨j', hmj, hj', hSt, hmb0, hmb, hf, e8, e20, e21, e22, e1, e2⟩ := hI
  obtain rfl : j = j' := by omega
  unfold F13B0
  obtain ⟨x, hx⟩ : ∃ x, KL[j]? = some x := ⟨_, List.getElem?_eq_getElem hj⟩
  have hxok := hko x (List.mem_of_getElem? hx)
  have hxk := hkk x (List.mem_of_getElem? hx)
  obtain ⟨b, o, c', rfl, hb, hin, htk⟩ := flat_at (hkv.fr0 hf) (keV_len KL) (by omega) hx
  have hji : (j : Int) < KL.length := by omega
  have hwj : IntKind.i64.wrap ((j : Int) + 1) = ((j + 1 : Nat) : Int) := wrap64 (by omega) (by omega)
  have hz9 : [Value.string ByteArray.empty, Value.int IntKind.i64 0, Value.int IntKind.i64 0, Value.int IntKind.i64 0, Value.int IntKind.i64 0, Value.float FloatKind.f64 0, Value.int IntKind.i64 0, Value.string ByteArray.empty, Value.slice none 0 0] = keV kz := rfl
  have hsp : splice (keV kz) 0 (keV x) = keV x := splice_full rfl
  obtain ⟨W2, hW2⟩ : ∃ W2, W2 = wr (nw w1 (keV kz) 37) (sz w1) (keV x) := ⟨_, rfl⟩
  have f2 : Fr [] w1 W2 := by rw [hW2]; exact ((Fr.refl [] w1).nw _ _).wr (.inr (Nat.le_refl _)) _
  have q2 : mm W2 (sz w1) = keV x := by rw [hW2]; exact mm_wr_same (by simp [fz_nw]) _
  have s2 : sz w1 < sz W2 := by rw [hW2, sz_wr, sz_nw]; omega
  try simp (maxDischargeDepth := 8) [↓sC, sB, sM, e20, e21, e22, hji, hj, hin, htk, hz9, hsp, keV_oneT, ← hW2, q2, ked, ked']
  have hxr := hxok.fr0 (hf.trans0 f2)
  have hsn := init_snoc hx
  -- the check says whether the record may be
  have hchk : Ret P 32 #[.agg (rcV x.rec' (.slice x.la x.rec'.list.length x.c)).toArray] W2 fun v w' => ∃ n : Int, v = i64 n ∧ (n = 0 ↔ RecOk x.rec') ∧ Fr [] W2 w' := by
    by_cases h : RecOk x.rec'
    · exact (refCheck_ok hxr h).mono fun v w' h' => ⟨0, h'.1, ⟨fun _ => h, fun _ => rfl⟩, h'.2⟩
    · exact (refCheck_spec hxr).mono fun v w' ⟨n, h1, h2, h3⟩ => ⟨n, h1, ⟨h2, fun h' => absurd h' h⟩, h3⟩
  refine hchk.call ?_
  rintro _ w3 ⟨n, rfl, hn, f3⟩
  have q3 : mm w3 (sz w1) = keV x := by rw [f3.mm s2 (by simp), q2]
  have g3 := f2.trans0 f3
  rcases (Decidable.em (n = 0)).symm with n0 | n0
  · have hno : ¬ RecOk x.rec' := fun h => n0 (hn.2 h)
    try simp (maxDischargeDepth := 8) [↓sC, sB, sM, n0, e22, hwj, -Int.natCast_add]
    refine hK _ _ ⟨j + 1, rfl, by omega, ?_, hmb0, g3.lt hmb, hf.trans0 g3, by simp [put_get, e8], by simp [put_get, e20], by simp [put_get, e21], by simp [put_get], by simp [put_get, e1], by simp [put_get, e2]⟩
    rw [hsn]
    unfold ini1
    rw [if_neg hno]
    obtain ⟨m, hm, hs⟩ := (hSt.fr0 g3).weak (Y := fun k => k ≠ mb ∧ k < sz w3 ∧ sz w0 ≤ k) fun k hk => ⟨hk.1, by have := g3.size; omega, hk.2.2⟩
    exact ⟨m, hm.mono (by omega), hs⟩
  have hok := hn.1 n0
  have hl32 := list1000 hok
  try simp (maxDischargeDepth := 8) [↓sC, sB, sM, n0, e8, q3, ked, ked']
  refine (recCloneO_spec (hxr.fr0 f3.drew) (by omega)).call ?_
  rintro _ w4 ⟨l4, c4, rfl, hr4, hk4, f4⟩
  have g4 := g3.drew.trans0 f4
  have q4 : mm w4 (sz w1) = keV x := by rw [(f3.drew.trans0 f4).mm s2 (by simp), q2]
  obtain ⟨m, hm, hs⟩ := (hSt.fr0 g4).weak (Y := fun k => k ≠ mb ∧ k < sz w4 ∧ sz w0 ≤ k) fun k hk => ⟨hk.1, by have := g4.size; omega, hk.2.2⟩
  obtain ⟨w5, hrun, hm5, f5⟩ := map_upd hm (by unfold maxLen; omega) (s := x.key) (by unfold maxLen; omega) (.agg (rcV x.rec' (.slice l4 x.rec'.list.length c4)).toArray)
  try simp (maxDischargeDepth := 8) [↓sC, sB, sM, q4, hrun, e22, hwj, -Int.natCast_add]
  have hs5 := f5.size
  refine hK _ _ ⟨j + 1, rfl, by omega, ?_, hmb0, by have := g4.lt hmb; omega, (hf.trans0 g4).trans f5 (fun k hk => .inr (by simp at hk; omega)), by simp [put_get, e8], by simp [put_get, e20], by simp [put_get, e21], by simp [put_get], by simp [put_get, e1], by simp [put_get, e2]⟩
  rw [hsn]
  unfold ini1
  rw [if_pos hok]
  have hown : ∀ k, (Value.slice l4 x.rec'.list.length c4).ownBlock = some k → k ≠ mb ∧ k < sz w4 ∧ sz w0 ≤ k := fun k hk => by
    have hs0 := hf.size
    have := hk4 k hk
    have h1 : sz w1 ≤ sz w3 := g3.size
    rw [sz_drew] at this
    omega
  exact (StW.put hm hs hm5 f5 (fun k hk => hk.1) hr4 hown).weak fun k hk => ⟨hk.1, by omega, hk.2.2⟩
end Go.Proofs.YtieejbkbdfccdaaDoor

set_option linter.unusedVariables false
set_option linter.unusedSimpArgs false
namespace Go.Proofs.YtieejbkbdfccdaaDoor
open Go

structure ActR where
  act : ActP
  la : Option Addr
  c : Nat
def acR (a : ActR) : List Value := acV a.act (.slice a.la a.act.make.list.length a.c)
theorem acR_len : ∀ (L : List ActR), ∀ p ∈ L, (acR p).length = 14 := fun _ _ _ => rfl
def AcOk (w : World) (a : ActR) : Prop := IsAct w (.slice a.la a.act.make.list.length a.c) a.act
def actAt (L : List ActR) (i : Nat) : ActP := match L[i]? with | some a => a.act | none => ⟨0, [], 0, 0, [], rz, false⟩
structure AnR where
  an : AnP
  l : Option Addr
  c : Nat
def anR (a : AnR) : List Value := anV a.an (.slice a.l a.an.rec'.list.length a.c)
theorem anR_len : ∀ (L : List AnR), ∀ p ∈ L, (anR p).length = 10 := fun _ _ _ => rfl
def OutW (w : World) (ob n : Nat) (X : Nat → Prop) (o : Nat → AnP) : Prop :=
  ∃ L : List AnR, L.length = n ∧ RdV w (sl ob 0 n n) n (flat anR L) ∧ fz w ob = false ∧ ∀ i x, L[i]? = some x → x.an = o i ∧ IsRec w (.slice x.l x.an.rec'.list.length x.c) x.an.rec' ∧ ∀ k, (Value.slice x.l x.an.rec'.list.length x.c).ownBlock = some k → X k
theorem OutW.fr {w w' : World} {ob n : Nat} {X : Nat → Prop} {o : Nat → AnP} {S : List Nat} (h : OutW w ob n X o) (hf : Fr S w w') (hob : ob ∉ S) (hX : ∀ k, X k → k < sz w → k ∉ S) : OutW w' ob n X o := by
  obtain ⟨L, hL, hr, hz, hs⟩ := h
  refine ⟨L, hL, hr.fr hf (fun k hk => by have : k = ob := by simp [sl, Value.ownBlock] at hk; exact hk.symm
                                          rw [this]; exact hob), by rw [hf.fz (lt_of_fz hz) hob, hz], fun i x hx => ?_⟩
  obtain ⟨h1, h2, h3⟩ := hs i x hx
  exact ⟨h1, ⟨rd_frz h2.1 hf (fun k hk hlt => hX k (h3 k hk) hlt), h2.2⟩, h3⟩
theorem rd_putat {α : Type} {w : World} {b c n : Nat} {f : α → List Value} {L : List α} (h : RdV w (sl b 0 L.length c) L.length (flat f L)) (hf : ∀ x, (f x).length = n) (h0 : 0 < L.length) {i : Nat} (y : α) (hi : i < L.length) (hz : fz w b = false) :
    RdV (wr w b (splice (mm w b) (i * n) (f y))) (sl b 0 L.length c) L.length (flat f (L.set i y)) := by
  rcases h with ⟨_, _, _, h0', _⟩ | ⟨b', o, c', hv, h1, h2, h3, h4, h5⟩
  · omega
  have hv' := hv
  simp only [sl, Value.slice.injEq, Option.some.injEq, Addr.mk.injEq, true_and, and_true] at hv'
  obtain ⟨⟨rfl, rfl⟩, rfl⟩ := hv'
  have hl := flat_length (L := L) (fun x _ => hf x)
  have hl2 := flat_length (L := L.set i y) (fun x _ => hf x)
  rw [List.length_set] at hl2
  have hin : i * n + n ≤ L.length * n := by
    have : (i + 1) * n ≤ L.length * n := Nat.mul_le_mul_right _ hi
    rwa [Nat.add_mul, Nat.one_mul] at this
  rw [List.drop_zero] at h5
  have hsp : mm w b = flat f L ++ (mm w b).drop (flat f L).length := by rw [← List.take_append_drop (flat f L).length (mm w b), h5]; simp [h5]
  have hs2 : splice (mm w b) (i * n) (f y) = flat f (L.set i y) ++ (mm w b).drop (flat f L).length := by
    rw [hsp, splice_append (by rw [hf, hl]; omega), flat_set (fun x _ => hf x) hi (hf y) rfl]
    congr 1
    rw [← hsp]
  refine .inr ⟨b, 0, c, rfl, h1, h2, by rw [sz_wr]; exact h3, ?_, ?_⟩
  · rw [mm_wr_same hz, hs2, List.length_append]; omega
  · rw [mm_wr_same hz, hs2, List.drop_zero, List.take_left]

theorem OutW.put {w : World} {ob n : Nat} {X : Nat → Prop} {o : Nat → AnP} (h : OutW w ob n X o) {i : Nat} (hi : i < n) (hX : ∀ k, X k → k ≠ ob) (y : AnR) (hr : IsRec w (.slice y.l y.an.rec'.list.length y.c) y.an.rec') (hk : ∀ k, (Value.slice y.l y.an.rec'.list.length y.c).ownBlock = some k → X k) :
    OutW (wr w ob (splice (mm w ob) (i * 10) (anR y))) ob n X (updO o i y.an) := by
  obtain ⟨L, rfl, hrd, hz, hs⟩ := h
  have hf : Fr [ob] w (wr w ob (splice (mm w ob) (i * 10) (anR y))) := (Fr.refl [ob] w).wr (.inl (by simp)) _
  have hset := rd_putat hrd (n := 10) (fun _ => rfl) (by omega) y hi hz
  refine ⟨L.set i y, by simp, by simpa using hset, by rw [fz_wr, hz], fun m x hx => ?_⟩
  have keep : ∀ {z : AnR}, IsRec w (.slice z.l z.an.rec'.list.length z.c) z.an.rec' → (∀ k, (Value.slice z.l z.an.rec'.list.length z.c).ownBlock = some k → X k) → IsRec (wr w ob (splice (mm w ob) (i * 10) (anR y))) (.slice z.l z.an.rec'.list.length z.c) z.an.rec' := fun h1 h2 =>
    ⟨rd_frz h1.1 hf (fun k hk' _ hm => hX k (h2 k hk') (by simpa using hm)), h1.2⟩
  unfold updO
  rw [List.getElem?_set] at hx
  by_cases hm : i = m
  · subst hm
    simp [hi] at hx
    subst hx
    exact ⟨by simp, keep hr hk, hk⟩
  · rw [if_neg hm] at hx
    obtain ⟨h1, h2, h3⟩ := hs m x hx
    exact ⟨by rw [if_neg (fun h => hm h.symm)]; exact h1, keep h2 h3, h3⟩
theorem OutW.len {w : World} {ob n : Nat} {X : Nat → Prop} {o : Nat → AnP} (h : OutW w ob n X o) {i : Nat} (hi : i < n) : i * 10 + 10 ≤ (mm w ob).length := by
  obtain ⟨L, rfl, hrd, hz, hs⟩ := h
  obtain ⟨y, hy⟩ : ∃ y, L[i]? = some y := ⟨_, List.getElem?_eq_getElem hi⟩
  obtain ⟨b', o', c', hv, _, hin, _⟩ := flat_at hrd (anR_len L) (by omega) hy
  simp only [sl, Value.slice.injEq, Option.some.injEq, Addr.mk.injEq, true_and, and_true] at hv
  obtain ⟨⟨rfl, rfl⟩, rfl⟩ := hv
  omega
/-- What an act's doing leaves, behind its being drawn. -/
def ApM (D : World) (res : Option RecP × AnP) (bx bz : Nat) (X : World) : Prop :=
  ∃ (r' : RecP) (l : Option Addr) (c : Nat) (l2 : Option Addr) (c2 : Nat), (∀ x, res.1 = some x → r' = x) ∧ mm X bx = rcV r' (.slice l r'.list.length c) ∧ mm X bz = anV res.2 (.slice l2 res.2.rec'.list.length c2) ∧ bx < sz X ∧ bz < sz X ∧ sz D ≤ bx ∧ sz D ≤ bz ∧
    IsRec X (.slice l r'.list.length c) r' ∧ IsRec X (.slice l2 res.2.rec'.list.length c2) res.2.rec' ∧ (∀ k, (Value.slice l r'.list.length c).ownBlock = some k → sz D ≤ k) ∧ (∀ k, (Value.slice l2 res.2.rec'.list.length c2).ownBlock = some k → sz D ≤ k) ∧ Fr [] D X
theorem apm_of {D wc w2 Y : World} {res : Option RecP × AnP} {bx bz : Nat} {r' : RecP} {l l2 : Option Addr} {c c2 : Nat} (hD : Fr [] D wc) (hx : ∀ x, res.1 = some x → r' = x) (hr : IsRec w2 (.slice l r'.list.length c) r') (ha : IsRec w2 (.slice l2 res.2.rec'.list.length c2) res.2.rec')
    (ho : ∀ k, (Value.slice l r'.list.length c).ownBlock = some k → sz wc ≤ k) (ho2 : ∀ k, (Value.slice l2 res.2.rec'.list.length c2).ownBlock = some k → sz wc ≤ k) (hf : Fr [] wc w2) (hY : Fr [] w2 Y) (hb1 : sz D ≤ bx) (hb2 : sz D ≤ bz) (hne : bx ≠ bz) (hz1 : fz Y bx = false) (hz2 : fz Y bz = false)
    (hk : ∀ k, sz wc ≤ k → k < sz w2 → k ≠ bx ∧ k ≠ bz) : ApM D res bx bz (wr (wr Y bx (rcV r' (.slice l r'.list.length c))) bz (anV res.2 (.slice l2 res.2.rec'.list.length c2))) := by
  have hF : Fr [bx, bz] w2 (wr (wr Y bx (rcV r' (.slice l r'.list.length c))) bz (anV res.2 (.slice l2 res.2.rec'.list.length c2))) := ((hY.mono (by simp)).wr (.inl (by simp)) _).wr (.inl (by simp)) _
  have hs := hD.size
  refine ⟨r', l, c, l2, c2, hx, by rw [mm_wr_ne hne, mm_wr_same hz1], mm_wr_same (by rw [fz_wr, hz2]) _, by rw [sz_wr, sz_wr]; exact lt_of_fz hz1, by rw [sz_wr, sz_wr]; exact lt_of_fz hz2, hb1, hb2, ⟨rd_frz hr.1 hF (fun k hk' hlt hm => ?_), hr.2⟩, ⟨rd_frz ha.1 hF (fun k hk' hlt hm => ?_), ha.2⟩, fun k hk' => by have := ho k hk'; omega, fun k hk' => by have := ho2 k hk'; omega, ?_⟩
  · have := hk k (ho k hk') hlt
    simp at hm; omega
  · have := hk k (ho2 k hk') hlt
    simp at hm; omega
  · exact (((hD.trans0 hf).trans0 hY).wr (.inr hb1) _).wr (.inr hb2) _
theorem play_snoc (A : Nat → ActP) (L : List Nat) (i : Nat) (s : StM) (o : Nat → AnP) : playM A (L ++ [i]) s o = (updS (playM A L s o).1 (A i).key (applyM ((playM A L s o).1 (A i).key) (A i)).1, updO (playM A L s o).2 i (applyM ((playM A L s o).1 (A i).key) (A i)).2) := by
  rw [play_append]; rfl
def PlI (w0 : World) (mb ob n0 : Nat) (av ov : Value) (AL : List ActR) (OL : List Nat) (σ0 : StM) (m : Nat) (e : Env) (w' : World) : Prop :=
  ∃ j : Nat, m = OL.length - j ∧ j ≤ OL.length ∧ StW w' mb (n0 + j) (fun k => k ≠ mb ∧ k ≠ ob ∧ sz w0 ≤ k) (playM (actAt AL) (OL.take j) σ0 (fun _ => anC 0)).1 ∧ OutW w' ob AL.length (fun k => k ≠ mb ∧ k ≠ ob ∧ sz w0 ≤ k) (playM (actAt AL) (OL.take j) σ0 (fun _ => anC 0)).2 ∧
    Fr [] w0 w' ∧ mb < sz w' ∧ e 8 = .map (some mb) ∧ e 1 = av ∧ e 11 = sl ob 0 AL.length AL.length ∧ e 40 = ov ∧ e 41 = i64 OL.length ∧ e 42 = i64 j
set_option maxHeartbeats 8000000 in
set_option maxRecDepth 20000 in
theorem play_step {w0 : World} {mb ob n0 : Nat} {av ov : Value} {AL : List ActR} {OL : List Nat} {σ0 : StM} (hw : KW w0) (hav : RdV w0 av AL.length (flat acR AL)) (hao : ∀ a ∈ AL, AcOk w0 a ∧ ActOk a.act) (hov : RdV w0 ov OL.length (OL.map fun i : Nat => i64 (i : Int))) (hoi : ∀ i ∈ OL, i < AL.length)
    (hn0 : n0 ≤ 60) (hAl : AL.length ≤ 30) (hOl : OL.length ≤ 30) (hne : mb ≠ ob) (hmb0 : sz w0 ≤ mb) (hob0 : sz w0 ≤ ob) (hσ0 : FitS σ0) {j : Nat} {e : Env} {w1 : World} (hj : j < OL.length)
    (hI : PlI w0 mb ob n0 av ov AL OL σ0 (OL.length - j) e w1) {K : KT} (hK : ∀ e' w'', PlI w0 mb ob n0 av ov AL OL σ0 (OL.length - (j + 1)) e' w'' → K .normal e' w'') : F13B1 e w1 K := by
  obtain ⟨j', hmj, hj', hSt, hOut, hf, hmb, e8, e1, e11, e40, e41, e42⟩ := hI
  obtain rfl : j = j' := by omega
  unfold F13B1
  obtain ⟨i, hi⟩ : ∃ i, OL[j]? = some i := ⟨_, List.getElem?_eq_getElem hj⟩
  have hiA := hoi i (List.mem_of_getElem? hi)
  obtain ⟨x, hx⟩ : ∃ x, AL[i]? = some x := ⟨_, List.getElem?_eq_getElem hiA⟩
  obtain ⟨hxa, hxo⟩ := hao x (List.mem_of_getElem? hx)
  have hat : actAt AL i = x.act := by unfold actAt; rw [hx]
  have htk : OL.take (j + 1) = OL.take j ++ [i] := by rw [List.take_add_one, hi]; rfl
  have hacts : ∀ i ∈ OL.take j, actI (actAt AL i) := fun i hi' => by
    obtain ⟨y, hy⟩ : ∃ y, AL[i]? = some y := ⟨_, List.getElem?_eq_getElem (hoi i (List.mem_of_mem_take hi'))⟩
    obtain ⟨h1, h2⟩ := hao y (List.mem_of_getElem? hy)
    have : actAt AL i = y.act := by unfold actAt; rw [hy]
    rw [this]
    exact ⟨h2, h1.2, h1.1.2⟩
  have hfit := play_fit (o := fun _ => anC 0) hσ0 hacts
  obtain ⟨σ, hσ⟩ : ∃ σ, σ = (playM (actAt AL) (OL.take j) σ0 (fun _ => anC 0)).1 := ⟨_, rfl⟩
  obtain ⟨o, ho⟩ : ∃ o, o = (playM (actAt AL) (OL.take j) σ0 (fun _ => anC 0)).2 := ⟨_, rfl⟩
  have hsn := play_snoc (actAt AL) (OL.take j) i σ0 (fun _ => anC 0)
  rw [← htk, ← hσ, ← ho, hat] at hsn
  rw [← hσ] at hSt hfit
  rw [← ho] at hOut
  -- the row of numbers
  obtain ⟨bo, oo, co, rfl, hbo, hcell⟩ : ∃ bo oo co, ov = sl bo oo OL.length co ∧ bo < sz w0 ∧ oo + j < (mm w0 bo).length ∧ gt (mm w0 bo) (oo + j) = i64 i := by
    rcases id hov with ⟨_, _, _, h0, _⟩ | ⟨b, o', c', rfl, _, _, hb, hin, hcs⟩
    · omega
    · have hl : (OL.map fun i : Nat => i64 (i : Int)).length = OL.length := List.length_map ..
      rw [hl] at hin hcs
      refine ⟨b, o', c', rfl, hb, by omega, ?_⟩
      rw [cell_of (n := OL.length) hcs hj]
      unfold gt
      rw [List.getD_eq_getElem?_getD, List.getElem?_map, hi]; rfl
  have hcl := hcell.1
  have hcg := hcell.2
  obtain ⟨ab, ao, ac, hv, hab, hin, htk2⟩ := flat_at hav (acR_len AL) (by omega) hx
  subst hv
  have hji : (j : Int) < OL.length := by omega
  have hii : (i : Int) < AL.length := by omega
  have hwj : IntKind.i64.wrap ((j : Int) + 1) = ((j + 1 : Nat) : Int) := wrap64 (by omega) (by omega)
  have hcl1 : oo + j < (mm w1 bo).length := by rw [hf.mm hbo (by simp)]; exact hcl
  have hcg1 : gt (mm w1 bo) (oo + j) = i64 i := by rw [hf.mm hbo (by simp)]; exact hcg
  have keepA : ∀ {w' : World}, Fr [] w0 w' → mm w' ab = mm w0 ab := fun h => h.mm hab (by simp)
  have hkg : gt (mm w0 ab) (ao + i * 14 + 1) = strB x.act.key := by rw [cell_of htk2 (by omega)]; rfl
  have hkl : ao + i * 14 + 1 < (mm w0 ab).length := by omega
  have hkey24 := hxo.key24
  obtain ⟨s, hs⟩ : ∃ s, s = σ x.act.key := ⟨_, rfl⟩
  obtain ⟨r, hr⟩ : ∃ r, r = ofO s := ⟨_, rfl⟩
  obtain ⟨tb, htb⟩ : ∃ tb, tb = s.isSome := ⟨_, rfl⟩
  obtain ⟨res, hres⟩ : ∃ res, res = applyM s x.act := ⟨_, rfl⟩
  rw [← hs, ← hres] at hsn
  have hlook : ∃ (l : Option Addr) (c : Nat), pLookup P 40 (.map (some mb)) (strB x.act.key) true w1 = some (.tuple #[.agg (rcV r (.slice l r.list.length c)).toArray, .bool tb], w1) ∧ IsRec w1 (.slice l r.list.length c) r := by
    obtain ⟨m, hm, hms⟩ := id hSt
    have hlk := map_look hm (s := x.act.key) (by unfold maxLen; omega)
    cases hsc : s with
    | none =>
      have := (hms x.act.key).1 (by rw [← hs, hsc])
      rw [this] at hlk
      rw [hsc] at hr htb
      subst hr; subst htb
      exact ⟨none, 0, hlk, isRec_rz⟩
    | some r0 =>
      obtain ⟨l, c, h1, h2, _⟩ := (hms x.act.key).2 r0 (by rw [← hs, hsc])
      rw [h1] at hlk
      rw [hsc] at hr htb
      subst hr; subst htb
      exact ⟨l, c, hlk, h2⟩
  obtain ⟨l, c, hlook, hrr⟩ := hlook
  have hz8 : [Value.int IntKind.i64 0, Value.int IntKind.i64 0, Value.int IntKind.i64 0, Value.int IntKind.i64 0, Value.float FloatKind.f64 0, Value.int IntKind.i64 0, Value.string ByteArray.empty, Value.slice none 0 0] = rcV rz (.slice none 0 0) := rfl
  have hz10 : Value.int IntKind.i64 0 :: Value.int IntKind.i64 0 :: rcV rz (.slice none 0 0) = anZ := rfl
  have hspz : ∀ x l n c, splice (rcV rz (.slice none 0 0)) 0 (rcV x (.slice l n c)) = rcV x (.slice l n c) := fun _ _ _ _ => splice_full rfl
  have hsa : ∀ an l n c, splice anZ 0 (anV an (.slice l n c)) = anV an (.slice l n c) := fun _ _ _ _ => splice_full rfl
  have len8 : ∀ x lx, (rcV x lx).length = 8 := fun _ _ => rfl
  have len10 : ∀ x lx, (anV x lx).length = 10 := fun _ _ => rfl
  have t8 : ∀ r lv, (rcV r lv).take 8 = rcV r lv := fun _ _ => rfl
  have t10 : ∀ an lv, (anV an lv).take 10 = anV an lv := fun _ _ => rfl
  obtain ⟨W2, hW2⟩ : ∃ W2, W2 = wr (nw w1 (rcV rz (.slice none 0 0)) 25) (sz w1) (rcV r (.slice l r.list.length c)) := ⟨_, rfl⟩
  have f2 : Fr [] w1 W2 := by rw [hW2]; exact ((Fr.refl [] w1).nw _ _).wr (.inr (Nat.le_refl _)) _
  have m2 : mm W2 (sz w1) = rcV r (.slice l r.list.length c) := by rw [hW2]; exact mm_wr_same (by simp [fz_nw]) _
  have hA1 := keepA hf
  have hin1 : ao + i * 14 + 14 ≤ (mm w1 ab).length := by rw [hA1]; exact hin
  have hkg1 : gt (mm w1 ab) (ao + i * 14 + 1) = strB x.act.key := by rw [hA1]; exact hkg
  have hkl1 : ao + i * 14 + 1 < (mm w1 ab).length := by rw [hA1]; exact hkl
  try simp (maxDischargeDepth := 8) [↓sC, sB, sM, e40, e41, e42, e1, e8, hji, hj, hcl1, hcg1, hii, hiA, hkg1, hkl1, hlook, hz8, hspz, rcV_oneT, len8, ← hW2]
  obtain ⟨D, hD⟩ : ∃ D, D = drew W2 := ⟨_, rfl⟩
  have fD : Fr [] w1 D := by rw [hD]; exact f2.drew
  have F0D := hf.trans0 fD
  have mD : mm D (sz w1) = rcV r (.slice l r.list.length c) := by rw [hD, mm_drew, m2]
  have sD : sz w1 < sz D := by rw [hD, sz_drew, hW2, sz_wr, sz_nw]; omega
  have sDW : sz W2 = sz D := by rw [hD, sz_drew]
  have hA2 := keepA F0D
  have htkD : ((mm D ab).drop (ao + i * 14)).take 14 = acR x := by rw [hA2]; exact htk2
  have hinD : ao + i * 14 + 14 ≤ (mm D ab).length := by rw [hA2]; exact hin
  have habD : ab < sz D := by have := F0D.size; omega
  rw [← hD]
  refine drawE_of (fun e' w' => ∃ bx bz, ApM D res bx bz w' ∧ e' 16 = pt bx 0 ∧ e' 17 = .bool res.1.isSome ∧ e' 18 = pt bz 0 ∧ e' 8 = .map (some mb) ∧ e' 1 = sl ab ao AL.length ac ∧ e' 11 = sl ob 0 AL.length AL.length ∧ e' 13 = i64 i ∧ e' 40 = sl bo oo OL.length co ∧ e' 41 = i64 OL.length ∧ e' 42 = i64 j) ?_ ?_
  · intro k kp hkk
    have hacR : acR x = acV x.act (.slice x.la x.act.make.list.length x.c) := rfl
    rw [hacR] at htkD
    have hsp : ∀ wc, Fr [] D wc → Ret P 37 #[.agg (rcV r (.slice l r.list.length c)).toArray, .bool tb, .agg (acV x.act (.slice x.la x.act.make.list.length x.c)).toArray] wc fun v w' => ApR wc res v w' := fun wc hc => by
      have := apply_spec (s := s) (r := r) (tb := tb) hr htb (hw.fr0 (F0D.trans0 hc)) (hrr.fr0 (fD.trans0 hc)) (by rw [hs]; exact hfit x.act.key) (hxa.fr0 (F0D.trans0 hc)) hxo
      rw [← hres] at this
      exact this
    have n1 : ¬ sz w1 = sz D := by omega
    have n2 : ¬ sz w1 = sz D + 1 := by omega
    have n3 : ¬ ab = sz D := by omega
    have n4 : ¬ ab = sz D + 1 := by omega
    try simp (maxDischargeDepth := 8) [↓sC, sB, sM, e1, e8, hii, hiA, mD, htkD, hinD, t8, hz8, hz10, sDW, n1, n2, n3, n4]
    refine ⟨?_, ⟨?_, ?_⟩, ?_, ?_⟩
    · refine (hsp _ (Fr.refl [] D)).call ?_
      rintro _ w2 ⟨r5, l5, c5, l6, c6, rfl, hx5, hr5, ha5, ho5, ho6, f⟩
      try simp (maxDischargeDepth := 8) [↓sC, sB, sM, hz8, hz10, hspz, hsa, rcV_oneT, len8, anV_oneT, anZ_len, len10, sDW]
      have hs2 := f.size
      have hap1 := apm_of (Y := nw (nw w2 (rcV rz (.slice none 0 0)) 25) anZ 49) (bx := sz w2) (bz := sz w2 + 1) (Fr.refl [] D) hx5 hr5 ha5 ho5 ho6 f (((Fr.refl [] w2).nw _ _).nw _ _) (by omega) (by omega) (by omega) (by simp [fz_nw, sz_nw]) (by simp [fz_nw, sz_nw]) (fun k h1 h2 => by omega)
      have hap2 := apm_of (Y := nw (nw w2 anZ 49) (rcV rz (.slice none 0 0)) 25) (bx := sz w2 + 1) (bz := sz w2) (Fr.refl [] D) hx5 hr5 ha5 ho5 ho6 f (((Fr.refl [] w2).nw _ _).nw _ _) (by omega) (by omega) (by omega) (by simp [fz_nw, sz_nw]) (by simp [fz_nw, sz_nw]) (fun k h1 h2 => by omega)
      constructor
      · refine hkk _ _ ?_
        refine ⟨_, _, hap1, ?_⟩
        simp [put_get, e8, e1, e11, e40, e41, e42]
      · refine hkk _ _ ?_
        refine ⟨_, _, hap2, ?_⟩
        simp [put_get, e8, e1, e11, e40, e41, e42]
    · refine (hsp _ ((Fr.refl [] D).nw _ _)).call ?_
      rintro _ w2 ⟨r5, l5, c5, l6, c6, rfl, hx5, hr5, ha5, ho5, ho6, f⟩
      have hs2 : sz D + 1 ≤ sz w2 := by have := f.size; simpa [sz_nw, Nat.add_assoc] using this
      have q0 : mm w2 (sz D) = rcV rz (.slice none 0 0) := by rw [f.mm (by simp only [sz_nw]; omega) (by simp)]; simp [mm_nw, sz_nw]
      have z0 : fz w2 (sz D) = false := by rw [f.fz (by simp only [sz_nw]; omega) (by simp)]; simp [fz_nw, sz_nw]
      have n5 : ¬ sz w2 = sz D := by omega
      have n6 : ¬ sz D = sz w2 := by omega
      try simp (maxDischargeDepth := 8) [↓sC, sB, sM, hz8, hz10, hspz, hsa, rcV_oneT, len8, anV_oneT, anZ_len, len10, sDW, q0, z0, n5, n6]
      have hap := apm_of (Y := (nw w2 (anZ) 49)) (bx := sz D) (bz := sz w2) ((Fr.refl [] D).nw _ _) hx5 hr5 ha5 ho5 ho6 f ((Fr.refl [] w2).nw _ _) (by omega) (by omega) (by omega) (by simp [fz_nw, z0, n5, n6]) (by simp [fz_nw, z0, n5, n6]) (fun k h1 h2 => by simp [sz_nw] at h1; omega)
      refine hkk _ _ ?_
      refine ⟨_, _, hap, ?_⟩
      simp [put_get, e8, e1, e11, e40, e41, e42]
    · refine (hsp _ (((Fr.refl [] D).nw _ _).nw _ _)).call ?_
      rintro _ w2 ⟨r5, l5, c5, l6, c6, rfl, hx5, hr5, ha5, ho5, ho6, f⟩
      have hs2 : sz D + 2 ≤ sz w2 := by have := f.size; simpa [sz_nw, Nat.add_assoc] using this
      have q0 : mm w2 (sz D) = rcV rz (.slice none 0 0) := by rw [f.mm (by simp only [sz_nw]; omega) (by simp)]; simp [mm_nw, sz_nw]
      have z0 : fz w2 (sz D) = false := by rw [f.fz (by simp only [sz_nw]; omega) (by simp)]; simp [fz_nw, sz_nw]
      have q1 : mm w2 (sz D + 1) = anZ := by rw [f.mm (by simp only [sz_nw]; omega) (by simp)]; simp [mm_nw, sz_nw]
      have z1 : fz w2 (sz D + 1) = false := by rw [f.fz (by simp only [sz_nw]; omega) (by simp)]; simp [fz_nw, sz_nw]
      try simp (maxDischargeDepth := 8) [↓sC, sB, sM, hz8, hz10, hspz, hsa, rcV_oneT, len8, anV_oneT, anZ_len, len10, sDW, q0, z0, q1, z1]
      have hap := apm_of (Y := w2) (bx := sz D) (bz := sz D + 1) (((Fr.refl [] D).nw _ _).nw _ _) hx5 hr5 ha5 ho5 ho6 f (Fr.refl [] w2) (by omega) (by omega) (by omega) z0 z1 (fun k h1 h2 => by simp [sz_nw] at h1; omega)
      refine hkk _ _ ?_
      refine ⟨_, _, hap, ?_⟩
      simp [put_get, e8, e1, e11, e40, e41, e42]
    · refine (hsp _ ((Fr.refl [] D).nw _ _)).call ?_
      rintro _ w2 ⟨r5, l5, c5, l6, c6, rfl, hx5, hr5, ha5, ho5, ho6, f⟩
      have hs2 : sz D + 1 ≤ sz w2 := by have := f.size; simpa [sz_nw, Nat.add_assoc] using this
      have q0 : mm w2 (sz D) = anZ := by rw [f.mm (by simp only [sz_nw]; omega) (by simp)]; simp [mm_nw, sz_nw]
      have z0 : fz w2 (sz D) = false := by rw [f.fz (by simp only [sz_nw]; omega) (by simp)]; simp [fz_nw, sz_nw]
      have n5 : ¬ sz w2 = sz D := by omega
      have n6 : ¬ sz D = sz w2 := by omega
      try simp (maxDischargeDepth := 8) [↓sC, sB, sM, hz8, hz10, hspz, hsa, rcV_oneT, len8, anV_oneT, anZ_len, len10, sDW, q0, z0, n5, n6]
      have hap := apm_of (Y := (nw w2 (rcV rz (.slice none 0 0)) 25)) (bx := sz w2) (bz := sz D) ((Fr.refl [] D).nw _ _) hx5 hr5 ha5 ho5 ho6 f ((Fr.refl [] w2).nw _ _) (by omega) (by omega) (by omega) (by simp [fz_nw, z0, n5, n6]) (by simp [fz_nw, z0, n5, n6]) (fun k h1 h2 => by simp [sz_nw] at h1; omega)
      refine hkk _ _ ?_
      refine ⟨_, _, hap, ?_⟩
      simp [put_get, e8, e1, e11, e40, e41, e42]
    · refine (hsp _ (((Fr.refl [] D).nw _ _).nw _ _)).call ?_
      rintro _ w2 ⟨r5, l5, c5, l6, c6, rfl, hx5, hr5, ha5, ho5, ho6, f⟩
      have hs2 : sz D + 2 ≤ sz w2 := by have := f.size; simpa [sz_nw, Nat.add_assoc] using this
      have q0 : mm w2 (sz D) = anZ := by rw [f.mm (by simp only [sz_nw]; omega) (by simp)]; simp [mm_nw, sz_nw]
      have z0 : fz w2 (sz D) = false := by rw [f.fz (by simp only [sz_nw]; omega) (by simp)]; simp [fz_nw, sz_nw]
      have q1 : mm w2 (sz D + 1) = rcV rz (.slice none 0 0) := by rw [f.mm (by simp only [sz_nw]; omega) (by simp)]; simp [mm_nw, sz_nw]
      have z1 : fz w2 (sz D + 1) = false := by rw [f.fz (by simp only [sz_nw]; omega) (by simp)]; simp [fz_nw, sz_nw]
      try simp (maxDischargeDepth := 8) [↓sC, sB, sM, hz8, hz10, hspz, hsa, rcV_oneT, len8, anV_oneT, anZ_len, len10, sDW, q0, z0, q1, z1]
      have hap := apm_of (Y := w2) (bx := sz D + 1) (bz := sz D) (((Fr.refl [] D).nw _ _).nw _ _) hx5 hr5 ha5 ho5 ho6 f (Fr.refl [] w2) (by omega) (by omega) (by omega) z1 z0 (fun k h1 h2 => by simp [sz_nw] at h1; omega)
      refine hkk _ _ ?_
      refine ⟨_, _, hap, ?_⟩
      simp [put_get, e8, e1, e11, e40, e41, e42]
  · rintro e' w' ⟨bx, bz, ⟨r', l5, c5, l6, c6, hx5, mx, mz, lx, lz, gx, gz, hr5, ha5, ho5, ho6, fX⟩, e16, e17, e18, e8', e1', e11', e13, e40', e41', e42'⟩
    have F0X := F0D.trans0 fX
    have F1X := fD.trans0 fX
    have hobz : ob < sz w1 := by obtain ⟨_, _, _, hz, _⟩ := id hOut; exact lt_of_fz hz
    have hs1D := fD.size
    have hOX := hOut.fr F1X (by simp) (by simp)
    have hSX := hSt.fr0 F1X
    have hol := hOX.len hiA
    have hoz : fz w' ob = false := by obtain ⟨_, _, _, hz, _⟩ := id hOX; exact hz
    have hX2 : ∀ k, (Value.slice l6 res.2.rec'.list.length c6).ownBlock = some k → k ≠ mb ∧ k ≠ ob ∧ sz w0 ≤ k := fun k hk => by
      have := ho6 k hk
      have := F0D.size
      exact ⟨by omega, by omega, by omega⟩
    have hX1 : ∀ k, (Value.slice l5 r'.list.length c5).ownBlock = some k → k ≠ mb ∧ k ≠ ob ∧ sz w0 ≤ k := fun k hk => by
      have := ho5 k hk
      have := F0D.size
      exact ⟨by omega, by omega, by omega⟩
    have hO5 := hOX.put hiA (fun k hk => hk.2.1) ⟨res.2, l6, c6⟩ ha5 hX2
    have hanR : anR ⟨res.2, l6, c6⟩ = anV res.2 (.slice l6 res.2.rec'.list.length c6) := rfl
    rw [hanR] at hO5
    obtain ⟨W5, hW5⟩ : ∃ W5, W5 = wr w' ob (splice (mm w' ob) (i * 10) (anV res.2 (.slice l6 res.2.rec'.list.length c6))) := ⟨_, rfl⟩
    rw [← hW5] at hO5
    have f5 : Fr [ob] w' W5 := by rw [hW5]; exact (Fr.refl [ob] w').wr (.inl (by simp)) _
    have F05 : Fr [] w0 W5 := F0X.trans f5 (fun k hk => .inr (by simp at hk; omega))
    have hA5 := keepA F05
    have hin5 : ao + i * 14 + 14 ≤ (mm W5 ab).length := by rw [hA5]; exact hin
    have hkg5 : gt (mm W5 ab) (ao + i * 14 + 1) = strB x.act.key := by rw [hA5]; exact hkg
    have hkl5 : ao + i * 14 + 1 < (mm W5 ab).length := by rw [hA5]; exact hkl
    have hS5 := hSX.fr f5 (by simpa using hne) (fun k hk _ => by simpa using hk.2.1)
    obtain ⟨m5, hm5, hms5⟩ := id hS5
    obtain ⟨w6, hrun6, hm6, f6⟩ := map_del hm5 (s := x.act.key) (by unfold maxLen; omega) (ty := 0)
    have hS6 := StW.del (n := 0) hms5 hm6 f6 (fun k hk => hk.1)
    have hO6 := hO5.fr f6 (by simpa using fun h => hne h.symm) (fun k hk _ => by simpa using hk.1)
    have F06 : Fr [] w0 w6 := F05.trans f6 (fun k hk => .inr (by simp at hk; omega))
    have hA6 := keepA F06
    have hin6 : ao + i * 14 + 14 ≤ (mm w6 ab).length := by rw [hA6]; exact hin
    have hkg6 : gt (mm w6 ab) (ao + i * 14 + 1) = strB x.act.key := by rw [hA6]; exact hkg
    have hkl6 : ao + i * 14 + 1 < (mm w6 ab).length := by rw [hA6]; exact hkl
    have hbx : bx ≠ ob := by omega
    have hbx2 : bx ≠ mb := by omega
    have mx6 : mm w6 bx = rcV r' (.slice l5 r'.list.length c5) := by
      rw [f6.mm (by have := f5.size; omega) (by simpa using hbx2), f5.mm lx (by simpa using hbx), mx]
    have hs56 := f5.size
    have hs6 := f6.size
    cases hr1 : res.1 with
    | none =>
      rw [hr1] at e17
      try simp (maxDischargeDepth := 8) [↓sC, sB, sM, e16, e17, e18, e8', e1', e11', e13, e40', e41', e42', mz, lz, t10, hii, hiA, hol, hoz, len10, anV_oneT, ← hW5, hin5, hkg5, hkl5, hrun6, hwj, -Int.natCast_add]
      refine hK _ _ ⟨j + 1, rfl, by omega, ?_, ?_, F06, by omega, ?_⟩
      · rw [hsn, hr1]
        obtain ⟨m, hm, hms⟩ := hS6
        exact ⟨m, hm.mono (by omega), hms⟩
      · rw [hsn]; exact hO6
      · simp [put_get, e8', e1', e11', e40', e41']
    | some r1 =>
      rw [hr1] at e17
      have := hx5 r1 hr1
      subst this
      obtain ⟨m7, hm7, hms7⟩ := id (hS6.fr0 ((Fr.refl [] w6).drew))
      obtain ⟨w7, hrun7, hm8, f7⟩ := map_upd hm7 (by unfold maxLen; omega) (s := x.act.key) (by unfold maxLen; omega) (.agg (rcV r' (.slice l5 r'.list.length c5)).toArray)
      try simp (maxDischargeDepth := 8) [↓sC, sB, sM, e16, e17, e18, e8', e1', e11', e13, e40', e41', e42', mz, lz, t10, hii, hiA, hol, hoz, len10, anV_oneT, ← hW5, hin5, hkg5, hkl5, hrun6, hin6, hkg6, hkl6, mx6, t8, hrun7, hwj, -Int.natCast_add]
      have hs7 := f7.size
      rw [sz_drew] at hs7
      refine hK _ _ ⟨j + 1, rfl, by omega, ?_, ?_, (F06.drew).trans f7 (fun k hk => .inr (by simp at hk; omega)), by omega, ?_⟩
      · rw [hsn, hr1]
        have hrX : IsRec (drew w6) (.slice l5 r'.list.length c5) r' := by
          have h1 := hr5.1
          have h2 := rd_frz h1 f5 (fun k hk _ => by simpa using (hX1 k hk).2.1)
          have h3 := rd_frz h2 f6 (fun k hk _ => by simpa using (hX1 k hk).1)
          exact ⟨rd_drew h3, hr5.2⟩
        have := StW.put hm7 hms7 hm8 f7 (fun k hk => hk.1) hrX hX1
        rw [updS_same] at this
        obtain ⟨m, hm, hms⟩ := this
        exact ⟨m, hm.mono (by omega), hms⟩
      · rw [hsn]
        exact (hO6.fr (Fr.refl [] w6).drew (by simp) (by simp)).fr f7 (by simpa using fun h => hne h.symm) (fun k hk _ => by simpa using hk.1)
      · simp [put_get, e8', e1', e11', e40', e41']
end Go.Proofs.YtieejbkbdfccdaaDoor

set_option linter.unusedVariables false
set_option linter.unusedSimpArgs false
namespace Go.Proofs.YtieejbkbdfccdaaDoor
open Go

theorem out_new {w : World} (n : Nat) (hn : n ≤ 30) {X : Nat → Prop} (ty : TypeId) : OutW (nw w (List.replicate n anZ).flatten ty) (sz w) n X (fun _ => anC 0) := by
  have hfl : (List.replicate n anZ).flatten = flat anR (List.replicate n ⟨anC 0, none, 0⟩) := by
    simp [flat, List.map_replicate]; rfl
  have hl : (flat anR (List.replicate n ⟨anC 0, none, 0⟩)).length = n * 10 := by
    rw [flat_length (n := 10) (fun _ _ => rfl)]; simp
  refine ⟨List.replicate n ⟨anC 0, none, 0⟩, by simp, ?_, by simp [fz_nw], fun i x hx => ?_⟩
  · rw [hfl]
    exact .inr ⟨sz w, 0, n, rfl, Nat.le_refl _, by unfold maxLen; omega, by rw [sz_nw]; omega, by simp [mm_nw], by simp [mm_nw]⟩
  · have := List.mem_of_getElem? hx
    rw [List.mem_replicate] at this
    rw [this.2]
    exact ⟨rfl, isRec_rz, fun k hk => by simp [Value.ownBlock] at hk⟩
def PlR (w : World) (KL : List KeptP) (AL : List ActR) (OL : List Nat) (v : Value) (w' : World) : Prop :=
  ∃ mb ob, v = .tuple #[.map (some mb), sl ob 0 AL.length AL.length] ∧ mb ≠ ob ∧ sz w ≤ mb ∧ sz w ≤ ob ∧ StW w' mb (KL.length + OL.length) (fun k => k ≠ mb ∧ k ≠ ob ∧ sz w ≤ k) (playM (actAt AL) OL (initM KL) (fun _ => anC 0)).1 ∧
    OutW w' ob AL.length (fun k => k ≠ mb ∧ k ≠ ob ∧ sz w ≤ k) (playM (actAt AL) OL (initM KL) (fun _ => anC 0)).2 ∧ Fr [] w w'
set_option maxHeartbeats 4000000 in
set_option maxRecDepth 20000 in
theorem play_spec {w : World} {ka ac oc : Option Addr} {kc acc occ : Nat} {KL : List KeptP} {AL : List ActR} {OL : List Nat} (hw : KW w) (hkv : RdV w (.slice ka KL.length kc) KL.length (flat keV KL)) (hko : ∀ k ∈ KL, KeOk w k) (hkk : ∀ k ∈ KL, k.key.length ≤ 100) (hl : KL.length ≤ 60)
    (hav : RdV w (.slice ac AL.length acc) AL.length (flat acR AL)) (hao : ∀ a ∈ AL, AcOk w a ∧ ActOk a.act) (hov : RdV w (.slice oc OL.length occ) OL.length (OL.map fun i : Nat => i64 (i : Int))) (hoi : ∀ i ∈ OL, i < AL.length) (hAl : AL.length ≤ 30) (hOl : OL.length ≤ 30) :
    Ret P 13 #[.slice ka KL.length kc, .slice ac AL.length acc, .slice oc OL.length occ] w fun v w' => PlR w KL AL OL v w' := by
  refine F13ok ?_
  unfold F13
  obtain ⟨w1, hmk, hm1, f1⟩ := map_make (w := w)
  try simp (maxDischargeDepth := 8) [↓sC, sB, sM, hmk]
  refine loopE_of (IniI w (sz w) (.slice ka KL.length kc) (.slice ac AL.length acc) (.slice oc OL.length occ) KL) KL.length ⟨0, by omega, by omega, ?_, Nat.le_refl _, hm1.lt, f1, by simp [put_get], by simp [put_get], by simp [put_get], by simp [put_get], by simp [put_get, argE], by simp [put_get, argE]⟩ ?_
  · exact ⟨_, hm1, fun s => ⟨fun _ => rfl, fun r hr => by simp [initM] at hr⟩⟩
  rintro m e w2 hI
  obtain ⟨j, rfl, hj, hSt, hmb0, hmb, hf, e8, e20, e21, e22, e1, e2⟩ := id hI
  by_cases hjl : j < KL.length
  · exact ini_step hkv hko hkk hl hjl hI fun e' w'' hK => ⟨KL.length - (j + 1), by omega, hK⟩
  obtain rfl : j = KL.length := by omega
  rw [List.take_length] at hSt
  unfold F13B0
  have hpm := pMake_eq (P := P) (t := 41) (w := w2) (n := AL.length) sliceE41 hasZero49 tyOk49 (by rw [zeroL49, cellsOf49]; rfl) (by rw [bytesOf49]; omega) (by omega)
  rw [zeroL49] at hpm
  have hz : [Value.int IntKind.i64 0, Value.int IntKind.i64 0, Value.int IntKind.i64 0, Value.int IntKind.i64 0, Value.int IntKind.i64 0, Value.int IntKind.i64 0, Value.float FloatKind.f64 0, Value.int IntKind.i64 0, Value.string ByteArray.empty, Value.slice none 0 0] = anZ := rfl
  rw [hz] at hpm
  obtain ⟨W3, hW3⟩ : ∃ W3, W3 = nw w2 (List.replicate AL.length anZ).flatten 49 := ⟨_, rfl⟩
  have hO3 : OutW W3 (sz w2) AL.length (fun k => k ≠ sz w ∧ k ≠ sz w2 ∧ sz w ≤ k) (fun _ => anC 0) := by rw [hW3]; exact out_new _ hAl _
  have f3 : Fr [] w2 W3 := by rw [hW3]; exact (Fr.refl [] w2).nw _ _
  rw [← hW3] at hpm
  have hS3 := (hSt.fr0 f3).weak (Y := fun k => k ≠ sz w ∧ k ≠ sz w2 ∧ sz w ≤ k) fun k hk => ⟨hk.1, by omega⟩
  try simp (maxDischargeDepth := 8) [↓sC, sB, sM, e8, e20, e21, e22, e1, e2, hpm]
  have g3 := hf.trans0 f3
  have hs2 := hf.size
  have hko' : FitS (initM KL) := init_fit fun k hk => (hko k hk).2
  refine loopE_of (PlI w (sz w) (sz w2) KL.length (.slice ac AL.length acc) (.slice oc OL.length occ) AL OL (initM KL)) OL.length ⟨0, by omega, by omega, hS3, hO3, g3, f3.lt hmb, by simp [put_get, e8], by simp [put_get, e1], by simp [put_get], by simp [put_get], by simp [put_get], by simp [put_get]⟩ ?_
  rintro m e w4 hI
  obtain ⟨j, rfl, hj, hSt4, hO4, f4, hmb4, e8', e1', e11', e40', e41', e42'⟩ := id hI
  by_cases hjo : j < OL.length
  · exact play_step hw hav hao hov hoi hl hAl hOl (by omega) (Nat.le_refl _) hs2 hko' hjo hI fun e' w'' hK => ⟨OL.length - (j + 1), by omega, hK⟩
  obtain rfl : j = OL.length := by omega
  rw [List.take_length] at hSt4 hO4
  unfold F13B1
  try simp (maxDischargeDepth := 8) [↓sC, sB, sM, e41', e42', e8', e11']
  exact ⟨sz w, sz w2, rfl, by omega, Nat.le_refl _, hs2, hSt4, hO4, f4⟩
end Go.Proofs.YtieejbkbdfccdaaDoor

set_option linter.unusedVariables false
set_option linter.unusedSimpArgs false
namespace Go.Proofs.YtieejbkbdfccdaaDoor
open Go

def aAdd : ActP := ⟨7, [97], 0, 0, [], rz, false⟩
def aPut : ActP := ⟨5, [97], 0, 0, [], rz, false⟩
theorem fOk27T : fieldsOk P 27 = true := by kernel_rfl
theorem bf27_add {w : World} : pBuild P 27 [(0, Value.int IntKind.i64 7), (1, Value.string { data := #[97] })] w = some (.agg (acV aAdd (.slice none 0 0)).toArray, w) := by
  rw [pBuild_struct hasZero27 fOk27T (fun p hp => ?_)]
  · rw [zeroL27]
    have e0 : offF P 27 0 = 0 := by kernel_rfl
    have e1 : offF P 27 1 = 1 := by kernel_rfl
    simp only [List.foldl_cons, List.foldl_nil, e0, e1]
    rfl
  · simp only [List.mem_cons, List.not_mem_nil, or_false] at hp
    rcases hp with rfl | rfl
    · exact ⟨0, 3, by kernel_rfl, by rw [cellsOf3]; rfl, by rw [zeroL27, cellsOf3]; decide⟩
    · exact ⟨1, 9, by kernel_rfl, by rw [cellsOf9]; rfl, by rw [zeroL27, cellsOf9]; decide⟩
theorem bf27_put {w : World} : pBuild P 27 [(0, Value.int IntKind.i64 5), (1, Value.string { data := #[97] })] w = some (.agg (acV aPut (.slice none 0 0)).toArray, w) := by
  rw [pBuild_struct hasZero27 fOk27T (fun p hp => ?_)]
  · rw [zeroL27]
    have e0 : offF P 27 0 = 0 := by kernel_rfl
    have e1 : offF P 27 1 = 1 := by kernel_rfl
    simp only [List.foldl_cons, List.foldl_nil, e0, e1]
    rfl
  · simp only [List.mem_cons, List.not_mem_nil, or_false] at hp
    rcases hp with rfl | rfl
    · exact ⟨0, 3, by kernel_rfl, by rw [cellsOf3]; rfl, by rw [zeroL27, cellsOf3]; decide⟩
    · exact ⟨1, 9, by kernel_rfl, by rw [cellsOf9]; rfl, by rw [zeroL27, cellsOf9]; decide⟩
theorem comm_add : commB aAdd aAdd = true := by simp [commB, kindsB, aAdd]
theorem comm_put : commB aPut aPut = false := by simp [commB, kindsB, readsB, aPut]
theorem acV_oneU {a : ActP} {la : Option Addr} {n c : Nat} : (∀ v, v ∈ acV a (.slice la n c) → v.oneCell' = true) = True := by
  simp only [eq_iff_iff, iff_true, acV]
  intro v hv
  rcases List.mem_append.1 hv with hv | hv
  · rcases List.mem_append.1 hv with hv | hv
    · simp only [List.mem_cons, List.not_mem_nil, or_false] at hv
      rcases hv with rfl | rfl | rfl | rfl | rfl <;> first | exact oc_strB _ | rfl
    · exact rcV_one v hv
  · simp only [List.mem_cons, List.not_mem_nil, or_false] at hv
    subst hv; rfl
/-- The first loop: what is kept. -/
def GuI (w0 : World) (kv av sv : Value) (KL : List KeptP) (m : Nat) (e : Env) (w' : World) : Prop :=
  ∃ j : Nat, m = KL.length - j ∧ j ≤ KL.length ∧ (∀ k ∈ KL.take j, k.key.length ≤ 100) ∧ Fr [] w0 w' ∧ e 0 = kv ∧ e 1 = av ∧ e 2 = sv ∧ e 46 = kv ∧ e 47 = i64 KL.length ∧ e 48 = i64 j
set_option maxHeartbeats 4000000 in
theorem gu_step {w0 : World} {kv av sv : Value} {KL : List KeptP} (hkv : RdV w0 kv KL.length (flat keV KL)) (hko : ∀ k ∈ KL, KeOk w0 k) (hl : KL.length ≤ 60) {j : Nat} {e : Env} {w1 : World} (hj : j < KL.length)
    (hI : GuI w0 kv av sv KL (KL.length - j) e w1) {K : KT} (hK : ∀ e' w'', GuI w0 kv av sv KL (KL.length - (j + 1)) e' w'' → K .normal e' w'') (hR : ∀ e' w'', e' 6 = .bool true → Fr [] w0 w'' → K .ret e' w'') : F4B0 e w1 K := by
  obtain ⟨j', hmj, hj', hkk, hf, e0, e1, e2, e46, e47, e48⟩ := hI
  obtain rfl : j = j' := by omega
  unfold F4B0
  obtain ⟨x, hx⟩ : ∃ x, KL[j]? = some x := ⟨_, List.getElem?_eq_getElem hj⟩
  have hxok := hko x (List.mem_of_getElem? hx)
  obtain ⟨b, o, c', rfl, hb, hin, htk⟩ := flat_at (hkv.fr0 hf) (keV_len KL) (by omega) hx
  have hji : (j : Int) < KL.length := by omega
  have hwj : IntKind.i64.wrap ((j : Int) + 1) = ((j + 1 : Nat) : Int) := wrap64 (by omega) (by omega)
  have hz9 : [Value.string ByteArray.empty, Value.int IntKind.i64 0, Value.int IntKind.i64 0, Value.int IntKind.i64 0, Value.int IntKind.i64 0, Value.float FloatKind.f64 0, Value.int IntKind.i64 0, Value.string ByteArray.empty, Value.slice none 0 0] = keV kz := rfl
  have hsp : splice (keV kz) 0 (keV x) = keV x := splice_full rfl
  obtain ⟨W2, hW2⟩ : ∃ W2, W2 = wr (nw w1 (keV kz) 37) (sz w1) (keV x) := ⟨_, rfl⟩
  have f2 : Fr [] w1 W2 := by rw [hW2]; exact ((Fr.refl [] w1).nw _ _).wr (.inr (Nat.le_refl _)) _
  have q2 : mm W2 (sz w1) = keV x := by rw [hW2]; exact mm_wr_same (by simp [fz_nw]) _
  have s2 : sz w1 < sz W2 := by rw [hW2, sz_wr, sz_nw]; omega
  have hxr := hxok.fr0 (hf.trans0 f2)
  have hlen : ∀ l w, pBuiltin P .len #[9] 3 [strB l] w = some (i64 l.length, w) := fun l w => len_strB und9
  rcases (Decidable.em (x.key.length ≤ 100)).symm with hk | hk
  · have hk1 : (100 : Int) < x.key.length := by omega
    try simp (maxDischargeDepth := 8) [↓sC, sB, sM, e46, e47, e48, hji, hj, hin, htk, hz9, hsp, keV_oneT, ← hW2, q2, ked, ked', hlen, hk1, hk]
    exact hR _ _ (by simp [put_get]) (hf.trans0 f2)
  have hk1 : ¬ (100 : Int) < x.key.length := by omega
  have hk2 : ¬ 100 < x.key.length := by omega
  try simp (maxDischargeDepth := 8) [↓sC, sB, sM, e46, e47, e48, hji, hj, hin, htk, hz9, hsp, keV_oneT, ← hW2, q2, ked, ked', hlen, hk1, hk2]
  refine (bigR_spec hxr).call ?_
  rintro _ w3 ⟨hv, f3⟩
  have g3 := f2.trans0 f3
  rcases hv with rfl | rfl
  · try simp (maxDischargeDepth := 8) [↓sC, sB, sM, e48, hwj, -Int.natCast_add]
    refine hK _ _ ⟨j + 1, rfl, by omega, fun k hk' => ?_, hf.trans0 g3, by simp [put_get, e0], by simp [put_get, e1], by simp [put_get, e2], by simp [put_get, e46], by simp [put_get, e47], by simp [put_get]⟩
    rw [List.take_add_one, hx, Option.toList_some, List.mem_append, List.mem_singleton] at hk'
    rcases hk' with hk' | rfl
    · exact hkk k hk'
    · exact hk
  · try simp (maxDischargeDepth := 8) [↓sC, sB, sM]
    exact hR _ _ (by simp [put_get]) (hf.trans0 g3)
/-- The second: the acts, and their order. -/
def nums (n : Nat) : List Value := (List.range n).map fun i : Nat => i64 (i : Int)
theorem app35 {base : Nat} {w : World} {v : Value} {n : Nat} {xs : List Value} (h : w.ownsRow base 3 1 v n xs) (hb : base ≤ sz w) (hn : n ≤ 1000) {x : Value} (hx : x.oneCell' = true) :
    ∃ v' w', pBuiltin P .append #[35, 35] 35 [v, sl (sz w) 0 1 1] (nw w [x] 3) = some (v', w') ∧ w'.ownsRow base 3 1 v' (n + 1) (xs ++ [x]) ∧ Fr v.ownBlock.toList w w' := by
  have f0 : Fr [] w (nw w [x] 3) := (Fr.refl [] w).nw _ _
  have hrd : RdV (nw w [x] 3) (sl (sz w) 0 1 1) 1 [x] := rd_new w [x] 3 (n := 1) (by unfold maxLen; omega)
  obtain ⟨x', w', hrun, hown, hg, hx'⟩ := append_own2 (P := P) (t := 35) (ty := 35) base sliceE35 hasZero3 cellsOf3 (by rw [zeroL3]; rfl) (by omega) (own_fr h f0 (by simp)) (by have := f0.size; omega) hrd (by simp) (by simpa using hx)
    (by unfold maxLen; omega) (by rw [bytesOf3]; omega)
  exact ⟨x', w', hrun, hown, (f0.mono (by simp)).trans (Fr.of_grown hg) (fun k hk => .inl hk)⟩
theorem nums_succ (j : Nat) : nums (j + 1) = nums j ++ [i64 (j : Int)] := by
  unfold nums
  rw [List.range_succ, List.map_append]; rfl
def AcI (w0 : World) (kv av sv : Value) (AL : List ActR) (m : Nat) (e : Env) (w' : World) : Prop :=
  ∃ (j : Nat) (ov : Value), m = AL.length - j ∧ j ≤ AL.length ∧ (∀ a ∈ AL.take j, ActOk a.act) ∧ w'.ownsRow (sz w0) 3 1 ov j (nums j) ∧ Fr [] w0 w' ∧ e 0 = kv ∧ e 1 = av ∧ e 2 = sv ∧ e 9 = ov ∧ e 63 = av ∧ e 64 = i64 AL.length ∧ e 65 = i64 j
set_option maxHeartbeats 4000000 in
theorem ac_step {w0 : World} {kv av sv : Value} {AL : List ActR} (hav : RdV w0 av AL.length (flat acR AL)) (hao : ∀ a ∈ AL, AcOk w0 a) (hl : AL.length ≤ 30) {j : Nat} {e : Env} {w1 : World} (hj : j < AL.length)
    (hI : AcI w0 kv av sv AL (AL.length - j) e w1) {K : KT} (hK : ∀ e' w'', AcI w0 kv av sv AL (AL.length - (j + 1)) e' w'' → K .normal e' w'') (hR : ∀ e' w'', e' 6 = .bool true → Fr [] w0 w'' → K .ret e' w'') : F4B1 e w1 K := by
  obtain ⟨j', ov, hmj, hj', hkk, hown, hf, e0, e1, e2, e9, e63, e64, e65⟩ := hI
  obtain rfl : j = j' := by omega
  unfold F4B1
  obtain ⟨x, hx⟩ : ∃ x, AL[j]? = some x := ⟨_, List.getElem?_eq_getElem hj⟩
  have hxok := hao x (List.mem_of_getElem? hx)
  obtain ⟨b, o, c', rfl, hb, hin, htk⟩ := flat_at (hav.fr0 hf) (acR_len AL) (by omega) hx
  have hji : (j : Int) < AL.length := by omega
  have hwj : IntKind.i64.wrap ((j : Int) + 1) = ((j + 1 : Nat) : Int) := wrap64 (by omega) (by omega)
  have hac : acR x = acV x.act (.slice x.la x.act.make.list.length x.c) := rfl
  rw [hac] at htk
  have hz14 : Value.int IntKind.i64 0 :: Value.string ByteArray.empty :: Value.int IntKind.i64 0 :: Value.float FloatKind.f64 0 :: Value.string ByteArray.empty :: Value.int IntKind.i64 0 :: Value.int IntKind.i64 0 :: Value.int IntKind.i64 0 :: Value.int IntKind.i64 0 :: Value.float FloatKind.f64 0 :: Value.int IntKind.i64 0 :: Value.string ByteArray.empty :: Value.slice none 0 0 :: [Value.bool false] = zeroL P 27 := by rw [zeroL27]; rfl
  have hsp : splice (zeroL P 27) 0 (acV x.act (.slice x.la x.act.make.list.length x.c)) = acV x.act (.slice x.la x.act.make.list.length x.c) := splice_full (by rw [zeroL27]; rfl)
  have hzl : (zeroL P 27).length = 14 := by rw [zeroL27]; rfl
  have one : (∀ v, v ∈ acV x.act (.slice x.la x.act.make.list.length x.c) → v.oneCell' = true) = True := acV_oneU
  obtain ⟨W2, hW2⟩ : ∃ W2, W2 = wr (nw w1 (zeroL P 27) 27) (sz w1) (acV x.act (.slice x.la x.act.make.list.length x.c)) := ⟨_, rfl⟩
  have f2 : Fr [] w1 W2 := by rw [hW2]; exact ((Fr.refl [] w1).nw _ _).wr (.inr (Nat.le_refl _)) _
  have q2 : mm W2 (sz w1) = acV x.act (.slice x.la x.act.make.list.length x.c) := by rw [hW2]; exact mm_wr_same (by simp [fz_nw]) _
  have s2 : sz w1 < sz W2 := by rw [hW2, sz_wr, sz_nw]; omega
  have t14 : (acV x.act (.slice x.la x.act.make.list.length x.c)).take 14 = acV x.act (.slice x.la x.act.make.list.length x.c) := rfl
  have hxr := IsAct.fr0 hxok (hf.trans0 f2)
  try simp (maxDischargeDepth := 8) [↓sC, sB, sM, e63, e64, e65, hji, hj, hin, htk, hz14, hsp, hzl, one, ← hW2, q2, t14, -zeroL27]
  refine (bigA_spec hxr).call ?_
  rintro _ w3 ⟨hv, f3⟩
  have g3 := f2.trans0 f3
  have q3 : mm w3 (sz w1) = acV x.act (.slice x.la x.act.make.list.length x.c) := by rw [f3.mm s2 (by simp), q2]
  have s3 : sz w1 < sz w3 := f3.lt s2
  rcases hv with rfl | rfl
  · have hxr3 := hxr.fr0 f3
    try simp (maxDischargeDepth := 8) [↓sC, sB, sM, q3, t14]
    refine (refAct_spec hxr3).call ?_
    rintro _ w4 ⟨n, rfl, hn, f4⟩
    have g4 := g3.trans0 f4
    rcases (Decidable.em (n = 0)).symm with n0 | n0
    · try simp (maxDischargeDepth := 8) [↓sC, sB, sM, n0]
      exact hR _ _ (by simp [put_get]) (hf.trans0 g4)
    have hok := hn n0
    have hb0 := (hf.trans0 g4).size
    have hbs4 : pBuildSlice P 35 1 [(0, i64 (j : Int))] w4 = some (sl (sz w4) 0 1 1, nw w4 [i64 (j : Int)] 3) := by
      rw [bsl35 (by omega) (by simp [Value.cells])]
      simp [splice, Value.cells]
    have hown4 : w4.ownsRow (sz w0) 3 1 ov j (nums j) := own_fr hown g4 (by simp)
    obtain ⟨v', w5, hrun, hown5, f5⟩ := app35 hown4 hb0 (by omega) (x := i64 (j : Int)) rfl
    have F5 : Fr [] w0 w5 := (hf.trans0 g4).trans f5 (fun k hk => .inr (own_lt hown4 k (by simpa using hk)).1)
    try simp (maxDischargeDepth := 8) [↓sC, sB, sM, n0, e9, hbs4, hrun, e65, hwj, -Int.natCast_add]
    rw [← nums_succ] at hown5
    refine hK _ _ ⟨j + 1, v', rfl, by omega, fun k hk' => ?_, hown5, F5, by simp [put_get, e0], by simp [put_get, e1], by simp [put_get, e2], by simp [put_get], by simp [put_get, e63], by simp [put_get, e64], by simp [put_get]⟩
    rw [List.take_add_one, hx, Option.toList_some, List.mem_append, List.mem_singleton] at hk'
    rcases hk' with hk' | rfl
    · exact hkk k hk'
    · exact hok
  · try simp (maxDischargeDepth := 8) [↓sC, sB, sM]
    exact hR _ _ (by simp [put_get]) (hf.trans0 g3)
end Go.Proofs.YtieejbkbdfccdaaDoor

set_option linter.unusedVariables false
set_option linter.unusedSimpArgs false
namespace Go.Proofs.YtieejbkbdfccdaaDoor
open Go

theorem swap_eq : ∀ {l : List Nat} {p a b : Nat}, l[p]? = some a → l[p + 1]? = some b → l = l.take p ++ a :: b :: l.drop (p + 2) ∧ (l.set p b).set (p + 1) a = l.take p ++ b :: a :: l.drop (p + 2)
  | x :: y :: l, 0, a, b, h1, h2 => by
    simp at h1 h2
    subst h1; subst h2
    simp
  | [x], 0, a, b, h1, h2 => by simp at h2
  | x :: l, p + 1, a, b, h1, h2 => by
    rw [List.getElem?_cons_succ] at h1 h2
    obtain ⟨e1, e2⟩ := swap_eq h1 h2
    constructor
    · show x :: l = _
      rw [List.take_succ_cons, List.drop_succ_cons, List.cons_append, ← e1]
    · rw [List.set_cons_succ, List.set_cons_succ, e2]; rfl
theorem rd_set1 {w : World} {b c n : Nat} {cs : List Value} (h : RdV w (sl b 0 n c) n cs) (hn : cs.length = n) {i : Nat} (v : Value) (hi : i < n) (hz : fz w b = false) :
    RdV (wr w b ((mm w b).set i v)) (sl b 0 n c) n (cs.set i v) := by
  rcases h with ⟨_, _, _, h0', _⟩ | ⟨b', o, c', hv, h1, h2, h3, h4, h5⟩
  · omega
  have hv' := hv
  simp only [sl, Value.slice.injEq, Option.some.injEq, Addr.mk.injEq, true_and, and_true] at hv'
  obtain ⟨⟨rfl, rfl⟩, rfl⟩ := hv'
  rw [List.drop_zero] at h5
  have hsp : mm w b = cs ++ (mm w b).drop cs.length := by
    have := List.take_append_drop cs.length (mm w b)
    rw [h5] at this
    exact this.symm
  refine .inr ⟨b, 0, c, rfl, h1, h2, by rw [sz_wr]; exact h3, ?_, ?_⟩
  · rw [mm_wr_same hz, List.length_set, List.length_set]; omega
  · rw [mm_wr_same hz, hsp, List.set_append_left _ _ (by omega), List.drop_zero, List.length_set]
    rw [List.take_left' (by rw [List.length_set])]
def ixs (L : List Nat) : List Value := L.map fun i : Nat => i64 (i : Int)
theorem ixs_at {w : World} {b c n : Nat} {L : List Nat} (h : RdV w (sl b 0 n c) n (ixs L)) (hn : L.length = n) {i x : Nat} (hx : L[i]? = some x) : i < (mm w b).length ∧ gt (mm w b) i = i64 (x : Int) := by
  have hi := (List.getElem?_eq_some_iff.1 hx).1
  have hl : (ixs L).length = n := by rw [← hn]; exact List.length_map ..
  rcases h with ⟨_, _, _, h0', _⟩ | ⟨b', o, c', hv, h1, h2, h3, h4, h5⟩
  · omega
  simp only [sl, Value.slice.injEq, Option.some.injEq, Addr.mk.injEq, true_and, and_true] at hv
  obtain ⟨⟨rfl, rfl⟩, rfl⟩ := hv
  rw [hl] at h4 h5
  refine ⟨by omega, ?_⟩
  have := cell_of (n := n) h5 (i := i) (by omega)
  rw [Nat.zero_add] at this
  rw [this]
  unfold gt ixs
  rw [List.getD_eq_getElem?_getD, List.getElem?_map, hx]; rfl
theorem ints_at {w : World} {v : Value} {n : Nat} {L : List Int} (h : RdV w v n (L.map i64)) (hn : L.length = n) {i : Nat} {x : Int} (hx : L[i]? = some x) : ∃ b o c, v = sl b o n c ∧ b < sz w ∧ o + i < (mm w b).length ∧ gt (mm w b) (o + i) = i64 x := by
  have hi := (List.getElem?_eq_some_iff.1 hx).1
  have hl : (L.map i64).length = n := by rw [← hn]; exact List.length_map ..
  rcases h with ⟨_, _, _, h0', _⟩ | ⟨b, o, c, hv, h1, h2, h3, h4, h5⟩
  · omega
  rw [hl] at h4 h5
  refine ⟨b, o, c, hv, h3, by omega, ?_⟩
  rw [cell_of (n := n) h5 (i := i) (by omega)]
  unfold gt
  rw [List.getD_eq_getElem?_getD, List.getElem?_map, hx]; rfl
def SwI (w0 w2 : World) (kv av sv : Value) (oa : Option Addr) (oc qb : Nat) (AL : List ActR) (SL : List Int) (σ0 : StM) (mv tv : Value) (m : Nat) (e : Env) (w' : World) : Prop :=
  ∃ (j : Nat) (OL : List Nat), m = SL.length - j ∧ j ≤ SL.length ∧ OL.length = AL.length ∧ (∀ i ∈ OL, i < AL.length) ∧ playM (actAt AL) OL σ0 (fun _ => anC 0) = playM (actAt AL) (List.range AL.length) σ0 (fun _ => anC 0) ∧
    RdV w' (.slice oa AL.length oc) AL.length (ixs OL) ∧ (2 ≤ AL.length → oa = some ⟨qb, 0, none⟩ ∧ fz w' qb = false) ∧ Fr [qb] w2 w' ∧ e 0 = kv ∧ e 1 = av ∧ e 9 = .slice oa AL.length oc ∧ e 12 = mv ∧ e 13 = tv ∧ e 90 = sv ∧ e 91 = i64 SL.length ∧ e 92 = i64 j
set_option maxHeartbeats 8000000 in
set_option maxRecDepth 20000 in
theorem sw_step {w0 w2 : World} {kv av sv : Value} {oa : Option Addr} {oc qb : Nat} {AL : List ActR} {SL : List Int} {σ0 : StM} {mv tv : Value} (hw : KW w0) (hav : RdV w0 av AL.length (flat acR AL)) (hao : ∀ a ∈ AL, AcOk w0 a ∧ ActOk a.act) (hsv : RdV w0 sv SL.length (SL.map i64))
    (h02 : Fr [] w0 w2) (hqb : sz w0 ≤ qb) (hσ0 : FitS σ0) (hAl : AL.length ≤ 30) (hSl : SL.length ≤ 200) {m : Nat} {e : Env} {w1 : World} (hI : SwI w0 w2 kv av sv oa oc qb AL SL σ0 mv tv m e w1) {K : KT}
    (hK : ∀ e' w'' m', m' < m → SwI w0 w2 kv av sv oa oc qb AL SL σ0 mv tv m' e' w'' → K .normal e' w'') (hX : ∀ e' w'' m', SwI w0 w2 kv av sv oa oc qb AL SL σ0 mv tv m' e' w'' → K (.exit 4) e' w'') : F4B2 e w1 K := by
  obtain ⟨j, OL, rfl, hj, hOl, hoi, hpl, hov, hqq, hf, e0, e1, e9, e12, e13, e90, e91, e92⟩ := hI
  unfold F4B2
  have hF : Fr [] w0 w1 := h02.trans hf (fun k hk => .inr (by simp at hk; omega))
  by_cases hjl : ¬ j < SL.length
  · have h1 : ¬ (j : Int) < SL.length := by omega
    try simp (maxDischargeDepth := 8) [↓sC, sB, sM, e91, e92, h1, hjl]
    exact hX _ _ 0 ⟨j, OL, by omega, hj, hOl, hoi, hpl, hov, hqq, hf, by simp [put_get, e0], by simp [put_get, e1], by simp [put_get, e9], by simp [put_get, e12], by simp [put_get, e13], by simp [put_get, e90], by simp [put_get, e91], by simp [put_get, e92]⟩
  have hjl : j < SL.length := by omega
  have hji : (j : Int) < SL.length := by omega
  have hwj : IntKind.i64.wrap ((j : Int) + 1) = ((j + 1 : Nat) : Int) := wrap64 (by omega) (by omega)
  obtain ⟨k, hk⟩ : ∃ k, SL[j]? = some k := ⟨_, List.getElem?_eq_getElem hjl⟩
  obtain ⟨sb, so, sc, rfl, hsb, hs1, hs2⟩ := ints_at hsv rfl hk
  have hs1' : so + j < (mm w1 sb).length := by rw [hF.mm hsb (by simp)]; exact hs1
  have hs2' : gt (mm w1 sb) (so + j) = i64 k := by rw [hF.mm hsb (by simp)]; exact hs2
  have hlen : pBuiltin P .len #[35] 3 [.slice oa AL.length oc] w1 = some (i64 AL.length, w1) := len35
  by_cases hn : AL.length < 2
  · have h1 : (AL.length : Int) < 2 := by omega
    try simp (maxDischargeDepth := 8) [↓sC, sB, sM, e90, e91, e92, e9, hji, hjl, hs1', hs2', hlen, h1, hn]
    exact hX _ _ (SL.length - j) ⟨j, OL, rfl, hj, hOl, hoi, hpl, hov, hqq, hf, by simp [put_get, e0], by simp [put_get, e1], by simp [put_get, e9], by simp [put_get, e12], by simp [put_get, e13], by simp [put_get, e90], by simp [put_get, e91], by simp [put_get, e92]⟩
  have hn2 : 2 ≤ AL.length := by omega
  obtain ⟨rfl, hqz⟩ := hqq hn2
  have h1 : ¬ (AL.length : Int) < 2 := by omega
  obtain ⟨d, hd⟩ : ∃ d, AL.length = d + 1 := ⟨AL.length - 1, by omega⟩
  have hwd : IntKind.i64.wrap ((AL.length : Int) - 1) = (d : Int) := by rw [wrap64 (by omega) (by omega)]; omega
  have hd0 : ¬ (d : Int) = 0 := by omega
  have t1 : k.tmod d < d := Int.tmod_lt_of_pos _ (by omega)
  have t2 : -(d : Int) < k.tmod d := by
    have := Int.tmod_lt_of_pos (-k) (b := (d : Int)) (by omega)
    rw [Int.neg_tmod] at this; omega
  have hw1 : IntKind.i64.wrap (k.tmod d + AL.length) = k.tmod d + AL.length := wrap64 (by omega) (by omega)
  have hw2 : IntKind.i64.wrap (k.tmod d + AL.length - 1) = k.tmod d + AL.length - 1 := wrap64 (by omega) (by omega)
  obtain ⟨p, hp⟩ : ∃ p : Nat, (k.tmod d + AL.length - 1).tmod d = p := by
    have : 0 ≤ (k.tmod d + AL.length - 1).tmod d := Int.tmod_nonneg _ (by omega)
    exact ⟨((k.tmod d + AL.length - 1).tmod d).toNat, by omega⟩
  have hpd : p < d := by
    have := Int.tmod_lt_of_pos (k.tmod d + AL.length - 1) (b := (d : Int)) (by omega)
    omega
  have hwp : IntKind.i64.wrap ((p : Int) + 1) = ((p + 1 : Nat) : Int) := wrap64 (by omega) (by omega)
  have hrem : ∀ x w, pBin P .rem 3 false (i64 x) (i64 d) w = some (i64 (x.tmod d), w) := fun x w => pBin_rem hd0
  obtain ⟨i1, hi1⟩ : ∃ i, OL[p]? = some i := ⟨_, List.getElem?_eq_getElem (by omega)⟩
  obtain ⟨i2, hi2⟩ : ∃ i, OL[p + 1]? = some i := ⟨_, List.getElem?_eq_getElem (by omega)⟩
  have hiA1 := hoi i1 (List.mem_of_getElem? hi1)
  have hiA2 := hoi i2 (List.mem_of_getElem? hi2)
  obtain ⟨x1, hx1⟩ : ∃ x, AL[i1]? = some x := ⟨_, List.getElem?_eq_getElem hiA1⟩
  obtain ⟨x2, hx2⟩ : ∃ x, AL[i2]? = some x := ⟨_, List.getElem?_eq_getElem hiA2⟩
  obtain ⟨c1, c2⟩ := ixs_at hov hOl hi1
  obtain ⟨c3, c4⟩ := ixs_at hov hOl hi2
  obtain ⟨ab, ao, ac, rfl, hab, hin1, htk1⟩ := flat_at (hav.fr0 hF) (acR_len AL) (by omega) hx1
  obtain ⟨ab', ao', ac', hv', _, hin2, htk2⟩ := flat_at (hav.fr0 hF) (acR_len AL) (by omega) hx2
  simp only [sl, Value.slice.injEq, Option.some.injEq, Addr.mk.injEq, true_and, and_true] at hv'
  obtain ⟨⟨rfl, rfl⟩, rfl⟩ := hv'
  have ha1 : acR x1 = acV x1.act (.slice x1.la x1.act.make.list.length x1.c) := rfl
  have ha2 : acR x2 = acV x2.act (.slice x2.la x2.act.make.list.length x2.c) := rfl
  rw [ha1] at htk1
  rw [ha2] at htk2
  have hii1 : (i1 : Int) < AL.length := by omega
  have hii2 : (i2 : Int) < AL.length := by omega
  have hpp1 : (p : Int) < AL.length := by omega
  have hpp2 : (p : Int) + 1 < AL.length := by omega
  have hpp3 : p < AL.length := by omega
  have hpp4 : p + 1 < AL.length := by omega
  have hpp5 : ((p + 1 : Nat) : Int) < AL.length := by omega
  try simp (maxDischargeDepth := 8) [↓sC, sB, sM, e90, e91, e92, e9, e1, hji, hjl, hs1', hs2', hlen, h1, hn, hwd, hrem, hw1, hw2, hp, hwp, hii1, hii2, hiA1, hiA2, hpp1, hpp2, hpp3, hpp4, hpp5, c1, c2, c3, c4, hin1, hin2, htk1, htk2, -Int.natCast_add]
  obtain ⟨hx1a, hx1o⟩ := hao x1 (List.mem_of_getElem? hx1)
  obtain ⟨hx2a, hx2o⟩ := hao x2 (List.mem_of_getElem? hx2)
  have hat1 : actAt AL i1 = x1.act := by unfold actAt; rw [hx1]
  have hat2 : actAt AL i2 = x2.act := by unfold actAt; rw [hx2]
  have hact : ∀ i ∈ OL, actI (actAt AL i) := fun i hi' => by
    obtain ⟨y, hy⟩ : ∃ y, AL[i]? = some y := ⟨_, List.getElem?_eq_getElem (hoi i hi')⟩
    obtain ⟨h1, h2⟩ := hao y (List.mem_of_getElem? hy)
    have : actAt AL i = y.act := by unfold actAt; rw [hy]
    rw [this]
    exact ⟨h2, h1.2, h1.1.2⟩
  refine (commute_spec (hw.fr0 hF.drew) hx1o.k1 hx1o.k21 hx2o.k1 hx2o.k21).call ?_
  rintro _ w3 ⟨rfl, f3⟩
  have g3 : Fr [] w1 w3 := ((Fr.refl [] w1).drew).trans0 f3
  have hqb1 : qb < sz w1 := lt_of_fz hqz
  have mq : mm w3 qb = mm w1 qb := g3.mm hqb1 (by simp)
  have zq : fz w3 qb = false := by rw [g3.fz hqb1 (by simp), hqz]
  have c1' : p < (mm w3 qb).length := by rw [mq]; exact c1
  have c3' : p + 1 < (mm w3 qb).length := by rw [mq]; exact c3
  have c2' : gt (mm w3 qb) p = i64 i1 := by rw [mq]; exact c2
  have c4' : gt (mm w3 qb) (p + 1) = i64 i2 := by rw [mq]; exact c4
  have hov3 : RdV (drew w3) (sl qb 0 AL.length oc) AL.length (ixs OL) := rd_drew (hov.fr0 g3)
  have hlx : ∀ L : List Nat, (ixs L).length = L.length := fun L => List.length_map ..
  cases hcb : commB x1.act x2.act with
  | true =>
    obtain ⟨W4, hW4⟩ : ∃ W4, W4 = wr (drew w3) qb ((mm w3 qb).set p (i64 i2)) := ⟨_, rfl⟩
    have hov4 : RdV W4 (sl qb 0 AL.length oc) AL.length ((ixs OL).set p (i64 i2)) := by
      rw [hW4, ← mm_drew w3]
      exact rd_set1 hov3 (by rw [hlx, hOl]) _ hpp3 (by rw [fz_drew, zq])
    have z4 : fz W4 qb = false := by rw [hW4, fz_wr, fz_drew, zq]
    have l4 : p + 1 < (mm W4 qb).length := by rw [hW4, mm_wr_same (by rw [fz_drew, zq]), List.length_set]; exact c3'
    obtain ⟨W5, hW5⟩ : ∃ W5, W5 = wr W4 qb ((mm W4 qb).set (p + 1) (i64 i1)) := ⟨_, rfl⟩
    have hov5 : RdV W5 (sl qb 0 AL.length oc) AL.length (((ixs OL).set p (i64 i2)).set (p + 1) (i64 i1)) := by
      rw [hW5]
      exact rd_set1 hov4 (by rw [List.length_set, hlx, hOl]) _ hpp4 z4
    have z5 : fz W5 qb = false := by rw [hW5, fz_wr, z4]
    have f5 : Fr [qb] w3 W5 := by
      rw [hW5, hW4]
      exact ((((Fr.refl [] w3).drew).mono (by simp)).wr (.inl (by simp)) _).wr (.inl (by simp)) _
    try simp (maxDischargeDepth := 8) [↓sC, sB, sM, hcb, c1', c2', c3', c4', zq, ← hW4, z4, l4, ← hW5, e92, hwj, -Int.natCast_add]
    obtain ⟨s1, s2⟩ := swap_eq hi1 hi2
    have hix : (((ixs OL).set p (i64 i2)).set (p + 1) (i64 i1)) = ixs ((OL.set p i2).set (p + 1) i1) := by unfold ixs; rw [List.map_set, List.map_set]
    rw [hix] at hov5
    have hmem : ∀ i ∈ (OL.set p i2).set (p + 1) i1, i < AL.length := fun i hi' => by
      rcases List.mem_or_eq_of_mem_set hi' with hi' | rfl
      · rcases List.mem_or_eq_of_mem_set hi' with hi' | rfl
        · exact hoi i hi'
        · exact hiA2
      · exact hiA1
    refine hK _ _ (SL.length - (j + 1)) (by omega) ⟨j + 1, (OL.set p i2).set (p + 1) i1, rfl, by omega, by simp [hOl], hmem, ?_, hov5, fun _ => ⟨rfl, z5⟩, (hf.trans (g3.mono (by simp)) (fun k hk => .inl hk)).trans f5 (fun k hk => .inl hk), by simp [put_get, e0], by simp [put_get, e1], by simp [put_get, e9], by simp [put_get, e12], by simp [put_get, e13], by simp [put_get, e90], by simp [put_get, e91], by simp [put_get]⟩
    rw [s2, ← play_swapped hσ0 (fun i hi' => hact i (List.mem_of_mem_take hi')) (by rw [hat1]; exact ⟨hx1o, hx1a.2, hx1a.1.2⟩) (by rw [hat2]; exact ⟨hx2o, hx2a.2, hx2a.1.2⟩) (by rw [hat1, hat2]; exact hcb), ← s1, hpl]
  | false =>
    try simp (maxDischargeDepth := 8) [↓sC, sB, sM, hcb, e92, hwj, -Int.natCast_add]
    exact hK _ _ (SL.length - (j + 1)) (by omega) ⟨j + 1, OL, rfl, by omega, hOl, hoi, hpl, hov.fr0 g3, fun _ => ⟨rfl, zq⟩, (hf.trans (g3.mono (by simp)) (fun k hk => .inl hk)), by simp [put_get, e0], by simp [put_get, e1], by simp [put_get, e9], by simp [put_get, e12], by simp [put_get, e13], by simp [put_get, e90], by simp [put_get, e91], by simp [put_get]⟩
end Go.Proofs.YtieejbkbdfccdaaDoor

set_option linter.unusedVariables false
set_option linter.unusedSimpArgs false
namespace Go.Proofs.YtieejbkbdfccdaaDoor
open Go

theorem ite_len {c : Prop} [Decidable c] {x y : RecP × AnP} (hx : x.2.rec'.list.length ≤ 32) (hy : y.2.rec'.list.length ≤ 32) : (if c then x else y).2.rec'.list.length ≤ 32 := by
  split
  · exact hx
  · exact hy
theorem ans_change {r : RecP} {a : ActP} (h : Fit' r) : (changeM r a).2.rec'.list.length ≤ 32 := by
  have hl := list1000 h.1
  have hz : rz.list.length ≤ 32 := by simp [rz]
  unfold changeM
  repeat' (first | exact hz | exact hl | apply ite_len)
theorem ans_apply {s : Option RecP} {a : ActP} (h : FitO s) : (applyM s a).2.rec'.list.length ≤ 32 := by
  have hz : rz.list.length ≤ 32 := by simp [rz]
  unfold applyM
  repeat' split
  all_goals first | exact hz | skip
  all_goals first | exact list1000 (h _ rfl).1 | exact ans_change (h _ rfl)
theorem ans_play {A : Nat → ActP} : ∀ {L : List Nat} {s : StM} {o : Nat → AnP}, FitS s → (∀ i ∈ L, actI (A i)) → (∀ i, (o i).rec'.list.length ≤ 32) → ∀ i, ((playM A L s o).2 i).rec'.list.length ≤ 32
  | [], s, o, h, _, ho, i => ho i
  | x :: L, s, o, h, ha, ho, i => by
    simp only [playM]
    refine ans_play (fit_upd h (apply_fit (h _) (ha x (by simp)))) (fun j hj => ha j (by simp [hj])) (fun j => ?_) i
    unfold updO
    split
    · exact ans_apply (h _)
    · exact ho j
def MpS (w : World) (σ : StM) (m : MpM) : Prop := ∀ s, (σ s = none → m s = none) ∧ ∀ r, σ s = some r → ∃ (l : Option Addr) (c : Nat), m s = some (.agg (rcV r (.slice l r.list.length c)).toArray) ∧ IsRec w (.slice l r.list.length c) r
theorem MpS.fr0 {w w' : World} {σ : StM} {m : MpM} (h : MpS w σ m) (hf : Fr [] w w') : MpS w' σ m := fun s => ⟨(h s).1, fun r hr => by
  obtain ⟨l, c, h1, h2⟩ := (h s).2 r hr
  exact ⟨l, c, h1, h2.fr0 hf⟩⟩
def RgI (w4 : World) (b1 b2 r n1 n2 : Nat) (m1 m2 : MpM) (v1 v2 : Value) (cnt : Nat) (e : Env) (w' : World) : Prop :=
  RangeW w' b1 r n1 cnt m1 ∧ MapW w' b2 n2 m2 ∧ Fr [] w4 w' ∧ sz w4 ≤ r ∧ e 158 = pt r 0 ∧ e 17 = .map (some b2) ∧ e 13 = v1 ∧ e 18 = v2
set_option maxHeartbeats 8000000 in
set_option maxRecDepth 20000 in
theorem rg_step {w4 : World} {b1 b2 r n1 n2 : Nat} {m1 m2 : MpM} {v1 v2 : Value} {σ : StM} (h1 : MpS w4 σ m1) (h2 : MpS w4 σ m2) (hσ : FitS σ) (hbr : b1 ≠ r) (hbr2 : b2 ≠ r) {cnt : Nat} {e : Env} {w1 : World} (hI : RgI w4 b1 b2 r n1 n2 m1 m2 v1 v2 cnt e w1) {K : KT}
    (hK : ∀ e' w'' c', c' < cnt → RgI w4 b1 b2 r n1 n2 m1 m2 v1 v2 c' e' w'' → K .normal e' w'') (hX : ∀ e' w'', RgI w4 b1 b2 r n1 n2 m1 m2 v1 v2 cnt e' w'' → K (.exit 6) e' w'') : F4B3 e w1 K := by
  obtain ⟨hrg, hm2, hf, hr4, e158, e17, e13, e18⟩ := id hI
  unfold F4B3
  rcases map_next hrg with hno | ⟨s, v, w2, c', hms, hsl, hnx, hen, hrg2, hc, f2⟩
  · try simp (maxDischargeDepth := 8) [↓sC, sB, sM, e158, hno]
    exact hX _ _ ⟨hrg, hm2, hf, hr4, by simp [put_get, e158], by simp [put_get, e17], by simp [put_get, e13], by simp [put_get, e18]⟩
  have F2 : Fr [] w4 w2 := hf.trans f2 (fun k hk => .inr (by simp at hk; omega))
  obtain ⟨x, hx⟩ : ∃ x, σ s = some x := by
    cases hσs : σ s with
    | none => rw [(h1 s).1 hσs] at hms; cases hms
    | some x => exact ⟨x, rfl⟩
  obtain ⟨l, c, hv, hxr⟩ := (h1 s).2 x hx
  obtain ⟨l', c2, hv', hxr'⟩ := (h2 s).2 x hx
  rw [hms] at hv
  cases hv
  have hm22 : MapW w2 b2 n2 m2 := hm2.fr f2 (by simpa using hbr2)
  have hz8 : [Value.int IntKind.i64 0, Value.int IntKind.i64 0, Value.int IntKind.i64 0, Value.int IntKind.i64 0, Value.float FloatKind.f64 0, Value.int IntKind.i64 0, Value.string ByteArray.empty, Value.slice none 0 0] = rcV rz (.slice none 0 0) := rfl
  have hspz : ∀ x l n c, splice (rcV rz (.slice none 0 0)) 0 (rcV x (.slice l n c)) = rcV x (.slice l n c) := fun _ _ _ _ => splice_full rfl
  have len8 : ∀ x lx, (rcV x lx).length = 8 := fun _ _ => rfl
  have t8 : ∀ r lv, (rcV r lv).take 8 = rcV r lv := fun _ _ => rfl
  obtain ⟨W3, hW3⟩ : ∃ W3, W3 = wr (nw w2 (rcV rz (.slice none 0 0)) 25) (sz w2) (rcV x (.slice l x.list.length c)) := ⟨_, rfl⟩
  have f3 : Fr [] w2 W3 := by rw [hW3]; exact ((Fr.refl [] w2).nw _ _).wr (.inr (Nat.le_refl _)) _
  have q3 : mm W3 (sz w2) = rcV x (.slice l x.list.length c) := by rw [hW3]; exact mm_wr_same (by simp [fz_nw]) _
  have s3 : sz w2 < sz W3 := by rw [hW3, sz_wr, sz_nw]; omega
  have hlk := map_look (hm22.fr f3 (by simp)) hsl
  rw [hv'] at hlk
  obtain ⟨W4, hW4⟩ : ∃ W4, W4 = wr (nw W3 (rcV rz (.slice none 0 0)) 25) (sz W3) (rcV x (.slice l' x.list.length c2)) := ⟨_, rfl⟩
  have f4 : Fr [] W3 W4 := by rw [hW4]; exact ((Fr.refl [] W3).nw _ _).wr (.inr (Nat.le_refl _)) _
  have q4 : mm W4 (sz W3) = rcV x (.slice l' x.list.length c2) := by rw [hW4]; exact mm_wr_same (by simp [fz_nw]) _
  have q4' : mm W4 (sz w2) = rcV x (.slice l x.list.length c) := by rw [f4.mm s3 (by simp), q3]
  have F4 : Fr [] w4 W4 := (F2.trans0 f3).trans0 f4
  try simp (maxDischargeDepth := 8) [↓sC, sB, sM, e158, e17, hnx, hen, hz8, hspz, rcV_oneT, len8, ← hW3, hlk, ← hW4, q4, q4', t8]
  refine (same14_spec (hxr'.fr0 F4) (hxr.fr0 F4) (by have := list1000 (hσ s x hx).1; omega)).call ?_
  rintro _ w5 ⟨rfl, f5⟩
  try simp (maxDischargeDepth := 8) [↓sC, sB, sM]
  exact hK _ _ c' hc ⟨((hrg2.fr f3 (by simp) (by simp)).fr f4 (by simp) (by simp)).fr f5 (by simp) (by simp), ((hm22.fr f3 (by simp)).fr f4 (by simp)).fr f5 (by simp), F4.trans0 f5, hr4, by simp [put_get, e158], by simp [put_get, e17], by simp [put_get, e13], by simp [put_get, e18]⟩
/-- The answers. -/
def AsI (w4 : World) (v1 v2 : Value) (n : Nat) (m : Nat) (e : Env) (w' : World) : Prop :=
  ∃ j : Nat, m = n - j ∧ j ≤ n ∧ Fr [] w4 w' ∧ e 13 = v1 ∧ e 18 = v2 ∧ e 179 = i64 n ∧ e 180 = i64 j
theorem OutW.at {w : World} {ob n : Nat} {X : Nat → Prop} {o : Nat → AnP} (h : OutW w ob n X o) {j : Nat} (hj : j < n) : ∃ (l : Option Addr) (c : Nat), ob < sz w ∧ j * 10 + 10 ≤ (mm w ob).length ∧ ((mm w ob).drop (j * 10)).take 10 = anV (o j) (.slice l (o j).rec'.list.length c) ∧ IsRec w (.slice l (o j).rec'.list.length c) (o j).rec' := by
  obtain ⟨L, rfl, hrd, hz, hs⟩ := h
  obtain ⟨y, hy⟩ : ∃ y, L[j]? = some y := ⟨_, List.getElem?_eq_getElem hj⟩
  obtain ⟨h1, h2, _⟩ := hs j y hy
  obtain ⟨b', o', c', hv, hb, hin, htk⟩ := flat_at hrd (anR_len L) (by omega) hy
  simp only [sl, Value.slice.injEq, Option.some.injEq, Addr.mk.injEq, true_and, and_true] at hv
  obtain ⟨⟨rfl, rfl⟩, rfl⟩ := hv
  rw [Nat.zero_add] at hin htk
  refine ⟨y.l, y.c, hb, hin, ?_, ?_⟩
  · rw [htk, ← h1]; rfl
  · rw [← h1]; exact h2
set_option maxHeartbeats 8000000 in
set_option maxRecDepth 20000 in
theorem as_step {w4 : World} {o1 o2 n : Nat} {X1 X2 : Nat → Prop} {o : Nat → AnP} (h1 : OutW w4 o1 n X1 o) (h2 : OutW w4 o2 n X2 o) (ho : ∀ i, (o i).rec'.list.length ≤ 32) (hn : n ≤ 30) {j : Nat} {e : Env} {w1 : World} (hj : j < n) (hI : AsI w4 (sl o1 0 n n) (sl o2 0 n n) n (n - j) e w1) {K : KT}
    (hK : ∀ e' w'', AsI w4 (sl o1 0 n n) (sl o2 0 n n) n (n - (j + 1)) e' w'' → K .normal e' w'') : F4B4 e w1 K := by
  obtain ⟨j', hmj, hj', hf, e13, e18, e179, e180⟩ := hI
  obtain rfl : j = j' := by omega
  unfold F4B4
  have hji : (j : Int) < n := by omega
  have hwj : IntKind.i64.wrap ((j : Int) + 1) = ((j + 1 : Nat) : Int) := wrap64 (by omega) (by omega)
  obtain ⟨l, c, hb, hin, htk, hr⟩ := h1.at hj
  obtain ⟨l', c', hb', hin', htk', hr'⟩ := h2.at hj
  have k1 : j * 10 + 10 ≤ (mm w1 o1).length := by rw [hf.mm hb (by simp)]; exact hin
  have k2 : ((mm w1 o1).drop (j * 10)).take 10 = anV (o j) (.slice l (o j).rec'.list.length c) := by rw [hf.mm hb (by simp)]; exact htk
  have k3 : j * 10 + 10 ≤ (mm w1 o2).length := by rw [hf.mm hb' (by simp)]; exact hin'
  have k4 : ((mm w1 o2).drop (j * 10)).take 10 = anV (o j) (.slice l' (o j).rec'.list.length c') := by rw [hf.mm hb' (by simp)]; exact htk'
  try simp (maxDischargeDepth := 8) [↓sC, sB, sM, e13, e18, e179, e180, hji, hj, k1, k2, k3, k4]
  refine (same15_spec (hr'.fr0 hf.drew) (hr.fr0 hf.drew) (by have := ho j; omega)).call ?_
  rintro _ w2 ⟨rfl, f2⟩
  try simp (maxDischargeDepth := 8) [↓sC, sB, sM, e180, hwj, -Int.natCast_add]
  exact hK _ _ ⟨j + 1, rfl, by omega, (hf.drew.trans0 f2), by simp [put_get, e13], by simp [put_get, e18], by simp [put_get, e179], by simp [put_get]⟩
end Go.Proofs.YtieejbkbdfccdaaDoor

set_option linter.unusedVariables false
set_option linter.unusedSimpArgs false
namespace Go.Proofs.YtieejbkbdfccdaaDoor
open Go

theorem StW.mp {w : World} {mb n : Nat} {X : Nat → Prop} {σ : StM} (h : StW w mb n X σ) : ∃ m, MapW w mb n m ∧ MpS w σ m := by
  obtain ⟨m, hm, hs⟩ := h
  refine ⟨m, hm, fun s => ⟨(hs s).1, fun r hr => ?_⟩⟩
  obtain ⟨l, c, h1, h2, _⟩ := (hs s).2 r hr
  exact ⟨l, c, h1, h2⟩
theorem MpS.dom {w w' : World} {σ : StM} {m m' : MpM} (h : MpS w σ m) (h' : MpS w' σ m') (s : List UInt8) : (m s).isSome = (m' s).isSome := by
  cases hσ : σ s with
  | none => rw [(h s).1 hσ, (h' s).1 hσ]
  | some r =>
    obtain ⟨l, c, h1, _⟩ := (h s).2 r hσ
    obtain ⟨l', c', h2, _⟩ := (h' s).2 r hσ
    rw [h1, h2]; rfl
theorem own_order {base : Nat} {w : World} {v : Value} {n : Nat} {xs : List Value} (h : w.ownsRow base 3 1 v n xs) : ∃ (oa : Option Addr) (oc : Nat), v = .slice oa n oc ∧ (2 ≤ n → ∃ qb, oa = some ⟨qb, 0, none⟩ ∧ fz w qb = false ∧ base ≤ qb ∧ qb < sz w) := by
  rcases h.2 with ⟨rfl, rfl⟩ | ⟨g, cap, cur, rfl, hbg, hg, _⟩
  · exact ⟨none, 0, rfl, fun h => by omega⟩
  · have hz : fz w g = false := by simp [fz, hg]
    exact ⟨_, cap, rfl, fun _ => ⟨g, rfl, hz, hbg, lt_of_fz hz⟩⟩
theorem nums_ixs (n : Nat) : nums n = ixs (List.range n) := rfl
set_option maxHeartbeats 16000000 in
set_option maxRecDepth 20000 in
theorem wholeTraces_law {w : World} {ka aa sa : Option Addr} {kc acc sc : Nat} {KL : List KeptP} {AL : List ActR} {SL : List Int} (hw : KW w) (hkv : RdV w (.slice ka KL.length kc) KL.length (flat keV KL)) (hko : ∀ k ∈ KL, KeOk w k)
    (hav : RdV w (.slice aa AL.length acc) AL.length (flat acR AL)) (hao : ∀ a ∈ AL, AcOk w a) (hsv : RdV w (.slice sa SL.length sc) SL.length (SL.map i64)) :
    Ret P 4 #[.slice ka KL.length kc, .slice aa AL.length acc, .slice sa SL.length sc] w fun v w' => v = .bool true ∧ Fr [] w w' := by
  refine F4ok ?_
  unfold F4
  try simp (maxDischargeDepth := 8) [↓sC, sB, sM, bf27_add]
  refine (commute_spec (a := aAdd) (b := aAdd) hw (by simp [aAdd]) (by simp [aAdd]) (by simp [aAdd]) (by simp [aAdd])).call ?_
  rintro _ w1 ⟨rfl, f1⟩
  try simp (maxDischargeDepth := 8) [↓sC, sB, sM, comm_add, bf27_put]
  refine (commute_spec (a := aPut) (b := aPut) (hw.fr0 f1) (by simp [aPut]) (by simp [aPut]) (by simp [aPut]) (by simp [aPut])).call ?_
  rintro _ w2 ⟨rfl, f2⟩
  have g2 := f1.trans0 f2
  rcases (Decidable.em (KL.length ≤ 60)).symm with hl | hl
  · have h1 : (60 : Int) < KL.length := by omega
    have h2 : 60 < KL.length := by omega
    try simp (maxDischargeDepth := 8) [↓sC, sB, sM, comm_put, h1, h2]
    exact g2
  have h1 : ¬ (60 : Int) < KL.length := by omega
  have h2 : ¬ 60 < KL.length := by omega
  rcases (Decidable.em (AL.length ≤ 30)).symm with hAl | hAl
  · have h3 : (30 : Int) < AL.length := by omega
    have h4 : 30 < AL.length := by omega
    try simp (maxDischargeDepth := 8) [↓sC, sB, sM, comm_put, h1, h2, h3, h4]
    exact g2
  have h3 : ¬ (30 : Int) < AL.length := by omega
  have h4 : ¬ 30 < AL.length := by omega
  rcases (Decidable.em (SL.length ≤ 200)).symm with hSl | hSl
  · have h5 : (200 : Int) < SL.length := by omega
    have h6 : 200 < SL.length := by omega
    try simp (maxDischargeDepth := 8) [↓sC, sB, sM, comm_put, h1, h2, h3, h4, h5, h6]
    exact g2
  have h5 : ¬ (200 : Int) < SL.length := by omega
  have h6 : ¬ 200 < SL.length := by omega
  try simp (maxDischargeDepth := 8) [↓sC, sB, sM, comm_put, h1, h2, h3, h4, h5, h6]
  refine loopE_of (GuI w (.slice ka KL.length kc) (.slice aa AL.length acc) (.slice sa SL.length sc) KL) KL.length ⟨0, by omega, by omega, fun k hk => by simp at hk, g2, by simp [put_get, argE], by simp [put_get, argE], by simp [put_get, argE], by simp [put_get, argE], by simp [put_get, argE], by simp [put_get]⟩ ?_
  rintro m e w3 hI
  obtain ⟨j, rfl, hj, hkk, hf3, e0, e1, e2, e46, e47, e48⟩ := id hI
  by_cases hjl : j < KL.length
  · refine gu_step hkv hko hl hjl hI (fun e' w'' hK => ⟨KL.length - (j + 1), by omega, hK⟩) (fun e' w'' h6 hf => ?_)
    try simp (maxDischargeDepth := 8) [↓sC, sB, sM, h6]
    exact hf
  obtain rfl : j = KL.length := by omega
  rw [List.take_length] at hkk
  unfold F4B0
  try simp (maxDischargeDepth := 8) [↓sC, sB, sM, e47, e48, e1]
  refine loopE_of (AcI w (.slice ka KL.length kc) (.slice aa AL.length acc) (.slice sa SL.length sc) AL) AL.length ⟨0, .slice none 0 0, by omega, by omega, fun k hk => by simp at hk, World.ownsRow_nil _ _ _ _, hf3, by simp [put_get, e0], by simp [put_get, e1], by simp [put_get, e2], by simp [put_get], by simp [put_get], by simp [put_get], by simp [put_get]⟩ ?_
  clear hI hjl hj
  rintro m e w4 hI
  obtain ⟨j, ov, rfl, hj, haok, hown, hf4, e0, e1, e2, e9, e63, e64, e65⟩ := id hI
  by_cases hjl : j < AL.length
  · refine ac_step hav hao hAl hjl hI (fun e' w'' hK => ⟨AL.length - (j + 1), by omega, hK⟩) (fun e' w'' h6 hf => ?_)
    try simp (maxDischargeDepth := 8) [↓sC, sB, sM, h6]
    exact hf
  obtain rfl : j = AL.length := by omega
  rw [List.take_length] at haok
  obtain ⟨oa, oc, rfl, hord⟩ := own_order hown
  have hao2 : ∀ a ∈ AL, AcOk w a ∧ ActOk a.act := fun a ha => ⟨hao a ha, haok a ha⟩
  have hrd4 := own_rd hown
  rw [nums_ixs] at hrd4
  have hrl : (List.range AL.length).length = AL.length := List.length_range
  unfold F4B1
  try simp (maxDischargeDepth := 8) [↓sC, sB, sM, e64, e65, e0, e1, e2, e9]
  have hplay := play_spec (hw.fr0 hf4) (hkv.fr0 hf4) (fun k hk => (hko k hk).fr0 hf4) hkk hl (hav.fr0 hf4) (fun a ha => ⟨(hao a ha).fr0 hf4, haok a ha⟩) (oc := oa) (occ := oc) (OL := List.range AL.length) (by rw [hrl]; exact hrd4) (fun i hi => by simpa using hi) hAl (by rw [hrl]; exact hAl)
  rw [hrl] at hplay
  refine hplay.call ?_
  rintro _ w5 ⟨mb, ob, rfl, hne, hmb, hob, hS5, hO5, f5⟩
  have hσ0 : FitS (initM KL) := init_fit fun k hk => (hko k hk).2
  obtain ⟨σ, hσ⟩ : ∃ σ, σ = (playM (actAt AL) (List.range AL.length) (initM KL) (fun _ => anC 0)).1 := ⟨_, rfl⟩
  obtain ⟨o, ho⟩ : ∃ o, o = (playM (actAt AL) (List.range AL.length) (initM KL) (fun _ => anC 0)).2 := ⟨_, rfl⟩
  rw [← hσ] at hS5
  rw [← ho] at hO5
  have hacts : ∀ i ∈ List.range AL.length, actI (actAt AL i) := fun i hi => by
    obtain ⟨y, hy⟩ : ∃ y, AL[i]? = some y := ⟨_, List.getElem?_eq_getElem (by simpa using hi)⟩
    obtain ⟨h1, h2⟩ := hao2 y (List.mem_of_getElem? hy)
    have : actAt AL i = y.act := by unfold actAt; rw [hy]
    rw [this]
    exact ⟨h2, h1.2, h1.1.2⟩
  have hfit : FitS σ := by rw [hσ]; exact play_fit hσ0 hacts
  have hol : ∀ i, (o i).rec'.list.length ≤ 32 := by rw [ho]; exact ans_play hσ0 hacts fun i => by simp [anC, rz]
  have hf5 := hf4.trans0 f5
  have hs5 := f5.size
  have hs4 := hf4.size
  have hmbl : mb < sz w5 := by obtain ⟨m, hm, _⟩ := id hS5; exact hm.lt
  have hobl : ob < sz w5 := by obtain ⟨_, _, _, hz, _⟩ := id hO5; exact lt_of_fz hz
  obtain ⟨qb, hqb, hq1, hq2, hq3, hq4⟩ : ∃ qb, sz w ≤ qb ∧ mb ≠ qb ∧ ob ≠ qb ∧ (∀ k, (k ≠ mb ∧ k ≠ ob ∧ sz w4 ≤ k) → k < sz w5 → k ≠ qb) ∧ (2 ≤ AL.length → oa = some ⟨qb, 0, none⟩ ∧ fz w5 qb = false) := by
    by_cases hn : 2 ≤ AL.length
    · obtain ⟨qb, h1, h2, h3, h4⟩ := hord hn
      exact ⟨qb, h3, by omega, by omega, fun k hk _ => by omega, fun _ => ⟨h1, by rw [f5.fz h4 (by simp), h2]⟩⟩
    · exact ⟨sz w5, by omega, by omega, by omega, fun k _ hk => by omega, fun h => absurd h hn⟩
  try simp (maxDischargeDepth := 8) [↓sC, sB, sM, e0, e1, e2, e9]
  refine loopE_of (SwI w w5 (.slice ka KL.length kc) (.slice aa AL.length acc) (.slice sa SL.length sc) oa oc qb AL SL (initM KL) (.map (some mb)) (sl ob 0 AL.length AL.length)) SL.length ⟨0, List.range AL.length, by omega, by omega, hrl, fun i hi => by simpa using hi, rfl, hrd4.fr0 f5, hq4, Fr.refl _ _, by simp [put_get, e0], by simp [put_get, e1], by simp [put_get, e9], by simp [put_get], by simp [put_get], by simp [put_get], by simp [put_get], by simp [put_get]⟩ ?_
  clear hI hjl hj
  rintro m e w6 hI
  refine sw_step hw hav hao2 hsv hf5 hqb hσ0 hAl hSl hI (fun e' w'' m' hm hK => ⟨m', hm, hK⟩) (fun e w7 m' h7 => ?_)
  clear hI e0 e1 e2 e9
  obtain ⟨j, OL, _, _, hOl, hoi, hpl, hov, _, hf7, e0, e1, e9, e12, e13, _, _, _⟩ := h7
  have F7 : Fr [] w w7 := hf5.trans hf7 (fun k hk => .inr (by simp at hk; omega))
  have hS7 := hS5.fr hf7 (by simpa using hq1) (fun k hk hl hm => hq3 k hk hl (by simpa using hm))
  have hO7 := hO5.fr hf7 (by simpa using hq2) (fun k hk hl hm => hq3 k hk hl (by simpa using hm))
  have hplay := play_spec (hw.fr0 F7) (hkv.fr0 F7) (fun k hk => (hko k hk).fr0 F7) hkk hl (hav.fr0 F7) (fun a ha => ⟨(hao a ha).fr0 F7, haok a ha⟩) (oc := oa) (occ := oc) (OL := OL) (by rw [hOl]; exact hov) hoi hAl (by rw [hOl]; exact hAl)
  rw [hOl] at hplay
  try simp (maxDischargeDepth := 8) [↓sC, sB, sM, e0, e1, e9]
  refine hplay.call ?_
  rintro _ w8 ⟨mb2, ob2, rfl, hne2, hmb2, hob2, hS8, hO8, f8⟩
  rw [hpl, ← hσ] at hS8
  rw [hpl, ← ho] at hO8
  have F8 := F7.trans0 f8
  have hS78 := hS7.fr0 f8
  have hO78 := hO7.fr f8 (by simp) (by simp)
  obtain ⟨m1, hm1, hp1⟩ := hS78.mp
  obtain ⟨m2, hm2, hp2⟩ := hS8.mp
  obtain ⟨k, hk1, hk2⟩ := map_len hm1 hm2 (hp1.dom hp2) (ty := 3)
  obtain ⟨w9, cnt, hrun, hrg, f9⟩ := map_range hm1
  try simp (maxDischargeDepth := 8) [↓sC, sB, sM, e12, e13, hk1, hk2, hrun]
  have F9 := F8.trans0 f9
  have hl1 := hm1.lt
  have hl2 := hm2.lt
  refine loopE_of (RgI w8 mb mb2 (sz w8) _ _ m1 m2 (sl ob 0 AL.length AL.length) (sl ob2 0 AL.length AL.length)) cnt ⟨hrg, hm2.fr f9 (by simp), f9, Nat.le_refl _, by simp [put_get], by simp [put_get], by simp [put_get, e13], by simp [put_get]⟩ ?_
  rintro c e w10 hI
  refine rg_step hp1 hp2 hfit (by omega) (by omega) hI (fun e' w'' c' hc hK => ⟨c', hc, hK⟩) (fun e w11 h11 => ?_)
  clear hI e0 e1 e9 e12 e13
  obtain ⟨_, _, hf11, _, _, _, e13, e18⟩ := h11
  try simp (maxDischargeDepth := 8) [↓sC, sB, sM, e18]
  refine loopE_of (AsI w8 (sl ob 0 AL.length AL.length) (sl ob2 0 AL.length AL.length) AL.length) AL.length ⟨0, by omega, by omega, hf11, by simp [put_get, e13], by simp [put_get, e18], by simp [put_get], by simp [put_get]⟩ ?_
  rintro m e w12 hI
  obtain ⟨j, rfl, hj, hf12, d13, d18, d179, d180⟩ := id hI
  by_cases hjl : j < AL.length
  · exact as_step hO78 hO8 hol hAl hjl hI fun e' w'' hK => ⟨AL.length - (j + 1), by omega, hK⟩
  obtain rfl : j = AL.length := by omega
  unfold F4B4
  try simp (maxDischargeDepth := 8) [↓sC, sB, sM, d179, d180]
  exact F8.trans0 hf12
end Go.Proofs.YtieejbkbdfccdaaDoor
