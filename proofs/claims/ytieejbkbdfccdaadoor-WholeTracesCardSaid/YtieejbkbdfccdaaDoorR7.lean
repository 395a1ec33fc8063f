/- Records that are written. -/
import Derived.Test.YtieejbkbdfccdaaDoorSim
import Derived.Test.YtieejbkbdfccdaaDoorR6
import Derived.Test.YtieejbkbdfccdaaDoorPackP
set_option linter.unusedVariables false
set_option linter.unusedSimpArgs false
namespace Go.Proofs.YtieejbkbdfccdaaDoor
open Go

def uP (n : Nat) : PartP := ⟨117, n, 0, 0, [], false⟩
def iP (n : Int) : PartP := ⟨105, 0, n, 0, [], false⟩
def fP (a : Nat) : PartP := ⟨102, 0, 0, a, [], false⟩
def sP (l : List UInt8) : PartP := ⟨115, 0, 0, 0, l, false⟩
def bP (x : Bool) : PartP := ⟨98, 0, 0, 0, [], x⟩
def okPL (L : List PartP) : Prop := ∀ p ∈ L, okP p ∧ p.s.length ≤ 64
theorem okPL_app {L M : List PartP} (h : okPL L) (h' : okPL M) : okPL (L ++ M) := fun p hp => (List.mem_append.1 hp).elim (h p) (h' p)
theorem okPL_one {p : PartP} (h : okP p) (hs : p.s.length ≤ 64) : okPL [p] := fun q hq => by simp at hq; subst hq; exact ⟨h, hs⟩
theorem ok_uP {n : Nat} (h : n < 2 * H63) : okPL [uP n] := okPL_one ⟨h, ⟨by simp [uP], by simp [uP]⟩, by simp [uP, H63]⟩ (by simp [uP])
theorem ok_iP {n : Int} (h : in64 n) : okPL [iP n] := okPL_one ⟨by simp [iP, H63], h, by simp [iP, H63]⟩ (by simp [iP])
theorem ok_fP {a : Nat} (h : a < 2 * H63) : okPL [fP a] := okPL_one ⟨by simp [fP, H63], ⟨by simp [fP], by simp [fP]⟩, h⟩ (by simp [fP])
theorem ok_sP {l : List UInt8} (h : l.length ≤ 64) : okPL [sP l] := okPL_one ⟨by simp [sP, H63], ⟨by simp [sP], by simp [sP]⟩, by simp [sP, H63]⟩ h
theorem ok_bP {x : Bool} : okPL [bP x] := okPL_one ⟨by simp [bP, H63], ⟨by simp [bP], by simp [bP]⟩, by simp [bP, H63]⟩ (by simp [bP])
theorem encAll_app (L M : List PartP) : encAll (L ++ M) = encAll L ++ encAll M := by simp [encAll]
theorem encAll_len {L : List PartP} (h : okPL L) : (encAll L).length ≤ 74 * L.length := by
  induction L with
  | nil => simp [encAll]
  | cons p L ih =>
    rw [encAll_cons, List.length_append, List.length_cons]
    have h1 := ih (fun q hq => h q (List.mem_cons_of_mem _ hq))
    obtain ⟨h2, h3⟩ := h p List.mem_cons_self
    have := encP_len h2 (by omega)
    omega
section
variable {w : World} {b : Nat} {B : List UInt8} {L : List PartP} {F : List Nat}

theorem stU {n : Nat} (h : IsW w b (B ++ encAll L) F) (hB : B.length ≤ 1000) (hL : okPL L) (hl : L.length ≤ 200) (hn : n < 2 * H63) :
    Ret P 50 #[pt b 0, u64 n] w fun v w' => v = .tuple #[] ∧ ∃ F', More w b (B ++ encAll (L ++ [uP n])) F w' F' := by
  have h1 := encAll_len hL
  have he : encP (uP n) = digits n := rfl
  have h2 := encAll_len (ok_uP hn)
  have h3 : encAll [uP n] = encP (uP n) := by simp [encAll]
  rw [h3] at h2
  rw [encAll_snoc, ← List.append_assoc]
  rw [he] at h2 ⊢
  simp only [List.length_singleton] at h2
  refine wU_spec h hn ?_
  simp only [List.length_append, List.length_cons, List.length_nil] at h2 ⊢
  omega

theorem stI {n : Int} (h : IsW w b (B ++ encAll L) F) (hB : B.length ≤ 1000) (hL : okPL L) (hl : L.length ≤ 200) (hn : in64 n) :
    Ret P 54 #[pt b 0, i64 n] w fun v w' => v = .tuple #[] ∧ ∃ F', More w b (B ++ encAll (L ++ [iP n])) F w' F' := by
  have h1 := encAll_len hL
  have he : encP (iP n) = digits (zig n) := rfl
  have h2 := encAll_len (ok_iP hn)
  have h3 : encAll [iP n] = encP (iP n) := by simp [encAll]
  rw [h3] at h2
  rw [encAll_snoc, ← List.append_assoc]
  rw [he] at h2 ⊢
  simp only [List.length_singleton] at h2
  refine wI_spec h hn.1 hn.2 ?_
  simp only [List.length_append, List.length_cons, List.length_nil] at h2 ⊢
  omega

theorem stF {n : Nat} (h : IsW w b (B ++ encAll L) F) (hB : B.length ≤ 1000) (hL : okPL L) (hl : L.length ≤ 200) (hn : n < 2 * H63) :
    Ret P 55 #[pt b 0, fl n] w fun v w' => v = .tuple #[] ∧ ∃ F', More w b (B ++ encAll (L ++ [fP n])) F w' F' := by
  have h1 := encAll_len hL
  have he : encP (fP n) = placeB (key n) := rfl
  have h2 := encAll_len (ok_fP hn)
  have h3 : encAll [fP n] = encP (fP n) := by simp [encAll]
  rw [h3] at h2
  rw [encAll_snoc, ← List.append_assoc]
  rw [he] at h2 ⊢
  simp only [List.length_singleton] at h2
  refine wF_spec h hn ?_
  simp only [List.length_append, List.length_cons, List.length_nil] at h2 ⊢
  omega

theorem stS {n : List UInt8} (h : IsW w b (B ++ encAll L) F) (hB : B.length ≤ 1000) (hL : okPL L) (hl : L.length ≤ 200) (hn : n.length ≤ 64) :
    Ret P 52 #[pt b 0, strB n] w fun v w' => v = .tuple #[] ∧ ∃ F', More w b (B ++ encAll (L ++ [sP n])) F w' F' := by
  have h1 := encAll_len hL
  have he : encP (sP n) = digits n.length ++ n := rfl
  have h2 := encAll_len (ok_sP hn)
  have h3 : encAll [sP n] = encP (sP n) := by simp [encAll]
  rw [h3] at h2
  rw [encAll_snoc, ← List.append_assoc]
  rw [he] at h2 ⊢
  simp only [List.length_singleton] at h2
  refine wS_spec h ?_
  simp only [List.length_append, List.length_cons, List.length_nil] at h2 ⊢
  omega

theorem stB {n : Bool} (h : IsW w b (B ++ encAll L) F) (hB : B.length ≤ 1000) (hL : okPL L) (hl : L.length ≤ 200) (hn : True) :
    Ret P 51 #[pt b 0, .bool n] w fun v w' => v = .tuple #[] ∧ ∃ F', More w b (B ++ encAll (L ++ [bP n])) F w' F' := by
  have h1 := encAll_len hL
  have he : encP (bP n) = [if n then 1 else 0] := rfl
  have h2 := encAll_len (ok_bP (x := n))
  have h3 : encAll [bP n] = encP (bP n) := by simp [encAll]
  rw [h3] at h2
  rw [encAll_snoc, ← List.append_assoc]
  rw [he] at h2 ⊢
  simp only [List.length_singleton] at h2
  refine wFlag_spec h ?_
  simp only [List.length_append, List.length_cons, List.length_nil] at h2 ⊢
  omega

end

def itP (k : Int) (x : ItemP) : List PartP := (if k = 9 then [fP x.score] else []) ++ [sP x.name]
def recP (r : RecP) : List PartP :=
  [uP r.kind.toNat] ++ (if r.kind = 1 then [sP r.text] else if r.kind = 4 then [iP r.low, iP r.high, iP r.num] else if r.kind = 2 ∨ r.kind = 3 then [iP r.num] else if r.kind = 5 ∨ r.kind = 6 ∨ r.kind = 7 then [fP r.real]
    else [uP r.cap.toNat, uP r.list.length] ++ r.list.flatMap (itP r.kind))

theorem itP_ok {k : Int} {x : ItemP} (hx : okI x) (hn : x.name.length ≤ 16) : okPL (itP k x) := by
  unfold itP
  refine okPL_app ?_ (ok_sP (by omega))
  split
  · exact ok_fP hx
  · exact fun p hp => by cases hp
theorem itP_len (k : Int) (x : ItemP) : (itP k x).length ≤ 2 := by unfold itP; split <;> simp
theorem items_okPL {k : Int} {M : List ItemP} (h : ∀ x ∈ M, okI x ∧ x.name.length ≤ 16) : okPL (M.flatMap (itP k)) := by
  intro p hp
  obtain ⟨x, hx, hp⟩ := List.mem_flatMap.1 hp
  exact itP_ok (h x hx).1 (h x hx).2 p hp
theorem items_lenPL (k : Int) : ∀ M : List ItemP, (M.flatMap (itP k)).length ≤ 2 * M.length
  | [] => by simp
  | x :: M => by
    have := items_lenPL k M
    have := itP_len k x
    simp only [List.flatMap_cons, List.length_append, List.length_cons]
    omega
theorem items_take {k : Int} {M : List ItemP} {j : Nat} {x : ItemP} (h : M[j]? = some x) : (M.take (j + 1)).flatMap (itP k) = (M.take j).flatMap (itP k) ++ itP k x := by
  rw [List.take_add_one, h]; simp
theorem More.keep {w w' : World} {b p : Nat} {B : List UInt8} {F F' : List Nat} (h : More w b B F w' F') (hp : p < sz w) (hF : p ∉ F) : mm w' p = mm w p := h.fr.mm hp hF
def PutI (w : World) (b p : Nat) (B : List UInt8) (L : List PartP) (F : List Nat) (lv : Value) (r : RecP) (m : Nat) (e : Env) (w' : World) : Prop :=
  ∃ (j : Nat) (F' : List Nat), m = r.list.length - j ∧ j ≤ r.list.length ∧ More w b (B ++ encAll (L ++ (r.list.take j).flatMap (itP r.kind))) F w' F' ∧ e 0 = pt b 0 ∧ e 3 = pt p 0 ∧ e 58 = lv ∧ e 59 = i64 r.list.length ∧ e 60 = i64 j
theorem put_step {w : World} {b p : Nat} {B : List UInt8} {L : List PartP} {F : List Nat} {a : Option Addr} {c : Nat} {r : RecP} (hB : B.length ≤ 1000) (hL : okPL L) (hl : L.length ≤ 3) (hp : p < sz w) (hpF : p ∉ F) (hm : mm w p = rcV r (.slice a r.list.length c))
    (hr : RdV w (.slice a r.list.length c) r.list.length (flat itemV r.list)) (hlv : 0 < r.list.length → ∀ k, (Value.slice a r.list.length c).ownBlock = some k → k ∉ F) (hlvs : 0 < r.list.length → ∀ k, (Value.slice a r.list.length c).ownBlock = some k → k < sz w)
    (hok : ∀ x ∈ r.list, okI x ∧ x.name.length ≤ 16) (hlen : r.list.length ≤ 32) {j : Nat} {e : Env} {w1 : World} (hj : j < r.list.length)
    (hI : PutI w b p B L F (.slice a r.list.length c) r (r.list.length - j) e w1) {K : KT} (hK : ∀ e' w'', PutI w b p B L F (.slice a r.list.length c) r (r.list.length - (j + 1)) e' w'' → K .normal e' w'') : F27B0 e w1 K := by
  obtain ⟨j', F1, hmj, hj', hM, e0, e3, e58, e59, e60⟩ := hI
  obtain rfl : j = j' := by omega
  unfold F27B0
  obtain ⟨x, hx⟩ : ∃ x, r.list[j]? = some x := ⟨_, List.getElem?_eq_getElem hj⟩
  have hxok := hok x (List.mem_of_getElem? hx)
  have h0 : 0 < r.list.length := by omega
  have hr1 : RdV w1 (.slice a r.list.length c) r.list.length (flat itemV r.list) := hr.fr hM.fr (fun k hk => hlv h0 k hk)
  obtain ⟨lb, o, c', hv, hb, hin, htk⟩ := flat_at hr1 (itemV_len r.list) (by omega) hx
  simp only [Value.slice.injEq] at hv
  obtain ⟨rfl, _, rfl⟩ := hv
  have hji : (j : Int) < r.list.length := by omega
  have hwj : IntKind.i64.wrap ((j : Int) + 1) = ((j + 1 : Nat) : Int) := wrap64 (by omega) (by omega)
  have hs2 : ∀ l : List Value, l.length = 2 → splice l 0 (itemV x) = itemV x := fun l hl => splice_full (by rw [hl]; rfl)
  have hp1 : mm w1 p = rcV r (.slice (some ⟨lb, o, none⟩) r.list.length c) := by rw [hM.keep hp hpF, hm]
  have hps : p < sz w1 := hM.fr.lt hp
  obtain ⟨W, hW⟩ : ∃ W, W = wr (nw w1 [Value.float FloatKind.f64 0, Value.string ByteArray.empty] 80) (sz w1) (itemV x) := ⟨_, rfl⟩
  have fW : Fr [] w1 W := by rw [hW]; exact ((Fr.refl [] w1).nw _ _).wr (.inr (Nat.le_refl _)) _
  have hmx : mm W (sz w1) = itemV x := by rw [hW]; exact mm_wr_same (by simp [fz_nw]) _
  have hpW : mm W p = rcV r (.slice (some ⟨lb, o, none⟩) r.list.length c) := by rw [fW.mm hps (by simp), hp1]
  have hsW : sz w1 < sz W := by rw [hW, sz_wr, sz_nw]; omega
  have hMW := hM.calm fW
  have hxF : sz w1 ∉ F1 := fun hc => by
    obtain ⟨_, _, _, _, _, _, h6⟩ := hM.is
    have := h6 _ hc; omega
  have hLl := items_lenPL r.kind (r.list.take j)
  have hLl2 : (r.list.take j).length ≤ 32 := by rw [List.length_take]; omega
  have hokL : okPL (L ++ (r.list.take j).flatMap (itP r.kind)) := okPL_app hL (items_okPL fun y hy => hok y (List.mem_of_mem_take hy))
  have hlL : (L ++ (r.list.take j).flatMap (itP r.kind)).length ≤ 100 := by rw [List.length_append]; omega
  have hnext := items_take (k := r.kind) hx
  try simp (maxDischargeDepth := 8) [↓sC, sB, sM, e58, e59, e60, e0, e3, hji, hj, hin, htk, hs2, itemV_oneT, ← hW, hmx, hpW]
  by_cases k9 : r.kind = 9
  · try simp (maxDischargeDepth := 8) [↓sC, sB, sM, k9, hmx]
    refine (stF hMW.is hB hokL (by omega) hxok.1).call ?_
    rintro _ w3 ⟨rfl, F3, hM3⟩
    have hmx3 : mm w3 (sz w1) = itemV x := by rw [hM3.keep hsW hxF, hmx]
    try simp (maxDischargeDepth := 8) [↓sC, sB, sM, e0, hmx3]
    refine (stS hM3.is hB (okPL_app hokL (ok_fP hxok.1)) (by rw [List.length_append]; simp only [List.length_singleton]; omega) (by omega : x.name.length ≤ 64)).call ?_
    rintro _ w4 ⟨rfl, F4, hM4⟩
    try simp (maxDischargeDepth := 8) [↓sC, sB, sM, e60, hwj, -Int.natCast_add]
    refine hK _ _ ⟨j + 1, F4, rfl, by omega, ?_, by simp [put_get, e0], by simp [put_get, e3], by simp [put_get, e58], by simp [put_get, e59], by simp [put_get]⟩
    have := (hMW.trans hM3).trans hM4
    rw [hnext]
    simpa [itP, k9] using this
  · try simp (maxDischargeDepth := 8) [↓sC, sB, sM, k9, e0, hmx]
    refine (stS hMW.is hB hokL (by omega) (by omega : x.name.length ≤ 64)).call ?_
    rintro _ w4 ⟨rfl, F4, hM4⟩
    try simp (maxDischargeDepth := 8) [↓sC, sB, sM, e60, hwj, -Int.natCast_add]
    refine hK _ _ ⟨j + 1, F4, rfl, by omega, ?_, by simp [put_get, e0], by simp [put_get, e3], by simp [put_get, e58], by simp [put_get, e59], by simp [put_get]⟩
    have := hMW.trans hM4
    rw [hnext]
    simpa [itP, k9] using this

end Go.Proofs.YtieejbkbdfccdaaDoor
