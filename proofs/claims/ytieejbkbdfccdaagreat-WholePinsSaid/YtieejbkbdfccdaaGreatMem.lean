/- The memory as lists of cells, and what each small operation of the walker does to it. -/
import Derived.Test.YtieejbkbdfccdaaGreatEv
import Derived.Laws.AppendOwn
import Derived.Laws.BytesString
import Derived.ChangeKeysEq
set_option linter.unusedVariables false
namespace Go.Proofs.YtieejbkbdfccdaaGreat
open Go
abbrev pt (b i : Nat) : Value := .pointer (some ⟨b, i, none⟩)
abbrev sl (b o n c : Nat) : Value := .slice (some ⟨b, o, none⟩) n c
abbrev i64 (n : Int) : Value := .int .i64 n
abbrev u8 (n : Int) : Value := .int .u8 n
def sz (w : World) : Nat := w.heap.size
def mm (w : World) (b : Nat) : List Value := match w.heap[b]? with | some (.cells c _ _) => c.toList | _ => []
def fz (w : World) (b : Nat) : Bool := match w.heap[b]? with | some (.cells _ _ fr) => !(decide (fr = (0, 0))) | _ => true
def nw (w : World) (l : List Value) (t : TypeId) : World := { w with heap := w.heap.push (.cells l.toArray t) }
def wr (w : World) (b : Nat) (l : List Value) : World := w.setRow b l.toArray
theorem sz_nw (w : World) (l : List Value) (t : TypeId) : sz (nw w l t) = sz w + 1 := by simp [sz, nw]
theorem sz_wr (w : World) (b : Nat) (l : List Value) : sz (wr w b l) = sz w := by simp [sz, wr, World.setRow]
theorem sz_drew (w : World) : sz (drew w) = sz w := by unfold drew; first | rfl | simp [sz, mm, fz]
theorem mm_drew (w : World) (b : Nat) : mm (drew w) b = mm w b := by unfold drew; first | rfl | simp [sz, mm, fz]
theorem fz_drew (w : World) (b : Nat) : fz (drew w) b = fz w b := by unfold drew; first | rfl | simp [sz, mm, fz]
theorem mm_nw (w : World) (l : List Value) (t : TypeId) (b : Nat) : mm (nw w l t) b = if b = sz w then l else mm w b := by
  unfold mm nw sz
  simp only [Array.getElem?_push]
  split
  · rename_i h
    split at h
    · rename_i hb; simp [hb] at h ⊢; obtain ⟨rfl, _⟩ := h; rfl
    · rename_i hb; rw [if_neg hb]; simp [h]
  · rename_i h
    split at h
    · rename_i hb; exact absurd rfl (h _ _ _)
    · rename_i hb
      rw [if_neg hb]
      split
      · rename_i h2; exact absurd h2 (by intro h3; exact h _ _ _ h3)
      · rfl
theorem fz_nw (w : World) (l : List Value) (t : TypeId) (b : Nat) : fz (nw w l t) b = if b = sz w then false else fz w b := by
  unfold fz nw sz
  simp only [Array.getElem?_push]
  by_cases hb : b = w.heap.size
  · simp [hb]
  · simp [hb]
theorem heap_wr (w : World) (c b : Nat) (l : List Value) : (wr w c l).heap[b]? = if c = b then (w.heap[b]?).map (fun o => match o with | .cells _ e f => .cells l.toArray e f | o => o) else w.heap[b]? := by
  simp only [wr, World.setRow, Array.getElem?_modify]
  rfl
theorem fz_wr (w : World) (c b : Nat) (l : List Value) : fz (wr w c l) b = fz w b := by
  unfold fz
  rw [heap_wr]
  by_cases h : c = b
  · simp only [if_pos h]
    cases hb : w.heap[b]? with
    | none => rfl
    | some o => cases o <;> rfl
  · simp only [if_neg h]
theorem mm_wr_ne {w : World} {c b : Nat} (h : b ≠ c) (l : List Value) : mm (wr w c l) b = mm w b := by
  unfold mm
  rw [heap_wr, if_neg (fun e => h e.symm)]
theorem mm_wr_same {w : World} {b : Nat} (h : fz w b = false) (l : List Value) : mm (wr w b l) b = l := by
  unfold mm
  rw [heap_wr, if_pos rfl]
  unfold fz at h
  cases hb : w.heap[b]? with
  | none => simp [hb] at h
  | some o => cases o <;> simp [hb] at h ⊢
theorem heap_of_fz {w : World} {b : Nat} (h : fz w b = false) : ∃ e, w.heap[b]? = some (.cells (mm w b).toArray e (0, 0)) := by
  unfold fz at h
  unfold mm
  cases hb : w.heap[b]? with
  | none => simp [hb] at h
  | some o =>
    cases o <;> simp only [hb] at h ⊢
    case cells c e fr => simp at h; subst h; exact ⟨e, by simp⟩
    all_goals simp at h
theorem lt_of_fz {w : World} {b : Nat} (h : fz w b = false) : b < sz w := by
  obtain ⟨e, he⟩ := heap_of_fz h
  exact (Array.getElem?_eq_some_iff.1 he).1
theorem wr_wr (w : World) (b : Nat) (l l' : List Value) : wr (wr w b l) b l' = wr w b l' := by
  have h : (wr (wr w b l) b l').heap = (wr w b l').heap := by
    apply Array.ext_getElem?
    intro i
    rw [heap_wr, heap_wr, heap_wr]
    by_cases hb : b = i
    · simp only [if_pos hb]
      cases w.heap[i]? with
      | none => rfl
      | some o => cases o <;> rfl
    · simp only [if_neg hb]
  show ({ w with heap := _ } : World) = { w with heap := _ }
  exact congrArg (fun hp => ({ w with heap := hp } : World)) h
theorem ne_lt {p s : Nat} (h : p < s) : (p = s) = False := by simp; omega
theorem cell_mm (w : World) (b i : Nat) : w.cell? ⟨b, i, none⟩ = (mm w b)[i]? := by
  unfold World.cell? mm
  cases w.heap[b]? with
  | none => rfl
  | some o => cases o <;> simp
/-! ### What of the old memory stays -/
structure Fr (S : List Nat) (w w' : World) : Prop where
  os : w'.os = w.os
  output : w'.output = w.output
  size : sz w ≤ sz w'
  block : ∀ b, b < sz w → b ∉ S → w'.heap[b]? = w.heap[b]?
theorem Fr.refl (S : List Nat) (w : World) : Fr S w w := ⟨rfl, rfl, Nat.le_refl _, fun _ _ _ => rfl⟩
theorem Fr.trans {S T : List Nat} {w w1 w2 : World} (h : Fr S w w1) (h' : Fr T w1 w2) (hT : ∀ b ∈ T, b ∈ S ∨ sz w ≤ b) : Fr S w w2 :=
  ⟨h'.os.trans h.os, h'.output.trans h.output, Nat.le_trans h.size h'.size, fun b hb hS =>
    (h'.block b (Nat.lt_of_lt_of_le hb h.size) (fun ht => (hT b ht).elim hS (fun h => absurd hb (Nat.not_lt.2 h)))).trans (h.block b hb hS)⟩
theorem Fr.trans0 {S : List Nat} {w w1 w2 : World} (h : Fr S w w1) (h' : Fr [] w1 w2) : Fr S w w2 := h.trans h' (by simp)
theorem Fr.mono {S T : List Nat} {w w1 : World} (h : Fr S w w1) (hT : ∀ b ∈ S, b ∈ T ∨ sz w ≤ b) : Fr T w w1 :=
  ⟨h.os, h.output, h.size, fun b hb hS => h.block b hb fun hs => (hT b hs).elim hS (fun h => absurd hb (Nat.not_lt.2 h))⟩
theorem Fr.nw {S : List Nat} {w w1 : World} (h : Fr S w w1) (l : List Value) (t : TypeId) : Fr S w (nw w1 l t) := by
  refine ⟨h.os, h.output, by rw [sz_nw]; have := h.size; omega, fun b hb hS => ?_⟩
  have hlt : b < w1.heap.size := Nat.lt_of_lt_of_le hb h.size
  rw [← h.block b hb hS]
  simp only [Proofs.YtieejbkbdfccdaaGreat.nw, Array.getElem?_push]
  rw [if_neg (by omega)]
theorem Fr.wr {S : List Nat} {w w1 : World} (h : Fr S w w1) {b : Nat} (hb : b ∈ S ∨ sz w ≤ b) (l : List Value) : Fr S w (wr w1 b l) := by
  refine ⟨h.os, h.output, by rw [sz_wr]; exact h.size, fun c hc hS => ?_⟩
  rw [← h.block c hc hS, heap_wr, if_neg]
  rintro rfl
  exact hb.elim hS (fun h => absurd hc (Nat.not_lt.2 h))
theorem Fr.drew {S : List Nat} {w w1 : World} (h : Fr S w w1) : Fr S w (drew w1) := ⟨h.os, h.output, h.size, h.block⟩
theorem Fr.mm {S : List Nat} {w w1 : World} (h : Fr S w w1) {b : Nat} (hb : b < sz w) (hS : b ∉ S) : mm w1 b = mm w b := by
  unfold Proofs.YtieejbkbdfccdaaGreat.mm; rw [h.block b hb hS]
theorem Fr.fz {S : List Nat} {w w1 : World} (h : Fr S w w1) {b : Nat} (hb : b < sz w) (hS : b ∉ S) : fz w1 b = fz w b := by
  unfold Proofs.YtieejbkbdfccdaaGreat.fz; rw [h.block b hb hS]
theorem Fr.lt {S : List Nat} {w w1 : World} (h : Fr S w w1) {b : Nat} (hb : b < sz w) : b < sz w1 := Nat.lt_of_lt_of_le hb h.size
/-! ### The continuations -/
theorem bindV_some (v : Value) (w : World) (K : Value → World → Prop) : bindV (some (v, w)) K = K v w :=
  propext ⟨fun ⟨_, _, h, k⟩ => by cases h; exact k, fun k => ⟨v, w, rfl, k⟩⟩
theorem bindU_some (w : World) (K : World → Prop) : bindU (some w) K = K w :=
  propext ⟨fun ⟨_, h, k⟩ => by cases h; exact k, fun k => ⟨w, rfl, k⟩⟩
@[congr] theorem bindV_congr {r r' : Option (Value × World)} {K : Value → World → Prop} (h : r = r') : bindV r K = bindV r' K := by rw [h]
@[congr] theorem bindU_congr {r r' : Option World} {K : World → Prop} (h : r = r') : bindU r K = bindU r' K := by rw [h]
theorem condE_true {α : Type} (X Y : α → Prop) (K : α) : condE (.bool true) X Y K = X K := by simp [condE]
theorem condE_false {α : Type} (X Y : α → Prop) (K : α) : condE (.bool false) X Y K = Y K := by simp [condE]
@[congr] theorem condE_congr {α : Type} {c c' : Value} {X Y : α → Prop} {K : α} (h : c = c') : condE c X Y K = condE c' X Y K := by rw [h]
theorem pickE_true (a b : Value) (K : Value → Prop) : pickE (.bool true) a b K = K a := by simp [pickE]
theorem pickE_false (a b : Value) (K : Value → Prop) : pickE (.bool false) a b K = K b := by simp [pickE]
@[congr] theorem pickE_congr {c c' a b : Value} {K : Value → Prop} (h : c = c') : pickE c a b K = pickE c' a b K := by rw [h]
theorem pickE_or (t b : Bool) (K : Value → Prop) : pickE (.bool t) (.bool true) (.bool b) K = K (.bool (t || b)) := by cases t <;> simp [pickE]
theorem pickE_and (t b : Bool) (K : Value → Prop) : pickE (.bool t) (.bool b) (.bool false) K = K (.bool (t && b)) := by cases t <;> simp [pickE]
theorem grdE_true (X : (Value → World → Prop) → Prop) (K : Value → World → Prop) (w : World) : grdE (.bool true) true X K w = X K := by simp [grdE]
theorem grdE_false (X : (Value → World → Prop) → Prop) (K : Value → World → Prop) (w : World) : grdE (.bool false) false X K w = X K := by simp [grdE]
theorem grdE_tf (X : (Value → World → Prop) → Prop) (K : Value → World → Prop) (w : World) : grdE (.bool true) false X K w = K undef w := by simp [grdE]
theorem grdE_ft (X : (Value → World → Prop) → Prop) (K : Value → World → Prop) (w : World) : grdE (.bool false) true X K w = K undef w := by simp [grdE]
theorem grdE_undef (want : Bool) (X : (Value → World → Prop) → Prop) (K : Value → World → Prop) (w : World) : grdE undef want X K w = K undef w := by simp [grdE, undef]
@[congr] theorem grdE_congr {c c' : Value} {want : Bool} {X : (Value → World → Prop) → Prop} {K : Value → World → Prop} {w : World} (h : c = c') : grdE c want X K w = grdE c' want X K w := by rw [h]
@[congr] theorem callE_congr {P : Program} {f : FuncId} {args args' : Array Value} {w w' : World} {K : Value → World → Prop} {KP : List PanicEntry → World → Prop} (h : args = args') (hw : w = w') :
    callE P f args w K KP = callE P f args' w' K KP := by rw [h, hw]
@[congr] theorem loopE_congr {B : Env → World → KT → Prop} {e : Env} {w w' : World} {K : KT} (hw : w = w') : loopE B e w K = loopE B e w' K := by rw [hw]
theorem nilE_pt (a : Addr) (K : Value → Prop) : nilE (.pointer (some a)) K = K (.pointer (some a)) := by simp [nilE]
@[congr] theorem nilE_congr {c c' : Value} {K : Value → Prop} (h : c = c') : nilE c K = nilE c' K := by rw [h]
theorem thenK_normal (N : Env → World → Prop) (K : KT) (e : Env) (w : World) : thenK N K .normal e w = N e w := rfl
theorem thenK_exit (N : Env → World → Prop) (K : KT) (i : Nat) (e : Env) (w : World) : thenK N K (.exit i) e w = K (.exit i) e w := rfl
theorem thenK_goto (N : Env → World → Prop) (K : KT) (i : Nat) (e : Env) (w : World) : thenK N K (.goto i) e w = K (.goto i) e w := rfl
theorem thenK_ret (N : Env → World → Prop) (K : KT) (e : Env) (w : World) : thenK N K .ret e w = K .ret e w := rfl
theorem thenK_panic (N : Env → World → Prop) (K : KT) (c : List PanicEntry) (e : Env) (w : World) : thenK N K (.panic c) e w = K (.panic c) e w := rfl
theorem blockK_exit (i j : Nat) (K : KT) (e : Env) (w : World) : blockK i K (.exit j) e w = if j = i then K .normal e w else K (.exit j) e w := rfl
theorem blockK_normal (i : Nat) (K : KT) (e : Env) (w : World) : blockK i K .normal e w = K .normal e w := rfl
theorem blockK_goto (i j : Nat) (K : KT) (e : Env) (w : World) : blockK i K (.goto j) e w = K (.goto j) e w := rfl
theorem blockK_ret (i : Nat) (K : KT) (e : Env) (w : World) : blockK i K .ret e w = K .ret e w := rfl
theorem blockK_panic (i : Nat) (K : KT) (c : List PanicEntry) (e : Env) (w : World) : blockK i K (.panic c) e w = K (.panic c) e w := rfl
theorem loopK_normal (I : Nat → Env → World → Prop) (n : Nat) (K : KT) (e : Env) (w : World) : loopK I n K .normal e w = ∃ m, m < n ∧ I m e w := rfl
theorem loopK_exit (I : Nat → Env → World → Prop) (n i : Nat) (K : KT) (e : Env) (w : World) : loopK I n K (.exit i) e w = K (.exit i) e w := rfl
theorem loopK_goto (I : Nat → Env → World → Prop) (n i : Nat) (K : KT) (e : Env) (w : World) : loopK I n K (.goto i) e w = K (.goto i) e w := rfl
theorem loopK_ret (I : Nat → Env → World → Prop) (n : Nat) (K : KT) (e : Env) (w : World) : loopK I n K .ret e w = K .ret e w := rfl
theorem loopK_panic (I : Nat → Env → World → Prop) (n : Nat) (K : KT) (c : List PanicEntry) (e : Env) (w : World) : loopK I n K (.panic c) e w = K (.panic c) e w := rfl
theorem topK_ret (P : Program) (rs : List ResultVar) (R : Ending → World → Prop) (e : Env) (w : World) : topK P rs R .ret e w = resVs P rs e w fun vs => R (.returned (tup vs)) w := rfl
theorem topK_normal (P : Program) (rs : List ResultVar) (R : Ending → World → Prop) (e : Env) (w : World) : topK P rs R .normal e w = resVs P rs e w fun vs => R (.returned (tup vs)) w := rfl
theorem topK_panic (P : Program) (rs : List ResultVar) (R : Ending → World → Prop) (c : List PanicEntry) (e : Env) (w : World) : topK P rs R (.panic c) e w = R (.panicked c) w := rfl
theorem resVs_nil (P : Program) (e : Env) (w : World) (K : List Value → Prop) : resVs P [] e w K = K [] := rfl
theorem resVs_tmp (P : Program) (t : Tmp) (r : List ResultVar) (e : Env) (w : World) (K : List Value → Prop) :
    resVs P (.tmp t :: r) e w K = resVs P r e w fun vs => K (e t :: vs) := rfl
theorem resVs_cell (P : Program) (a : Tmp) (t : TypeId) (r : List ResultVar) (e : Env) (w : World) (K : List Value → Prop) :
    resVs P (.cell a t :: r) e w K = bindV (pLoad P t (e a) w) fun v w' => w' = w ∧ resVs P r e w fun vs => K (v :: vs) := by
  simp only [resVs, bindV]
  apply propext
  constructor
  · rintro ⟨v, h, k⟩; exact ⟨v, w, h, rfl, k⟩
  · rintro ⟨v, w', h, rfl, k⟩; exact ⟨v, h, k⟩
theorem tup_one (v : Value) : tup [v] = v := rfl
theorem tup_nil : tup [] = .tuple #[] := rfl
theorem tup_two (v u : Value) (r : List Value) : tup (v :: u :: r) = .tuple (v :: u :: r).toArray := rfl
theorem put_get (e : Env) (d : Nat) (v : Value) (n : Nat) : Env.put e d v n = if n = d then v else e n := rfl
theorem argE_get (l : List Value) (n : Nat) : argE l n = l.getD n undef := rfl
theorem takeE_def (r : World → Option (Value × World)) (w : World) (X : Value → (World → Prop) → Prop) :
    takeE r w X = bindV (r w) fun v w' => w' = w ∧ X v (fun w' => r w' = some (v, w')) := by
  simp only [takeE, bindV]
  apply propext
  constructor
  · rintro ⟨v, h, k⟩; exact ⟨v, w, h, rfl, k⟩
  · rintro ⟨v, w', h, rfl, k⟩; exact ⟨v, h, k⟩
theorem heldE_nil (w : World) (X : Prop) : heldE [] w X = X := rfl
theorem heldE_cons (φ : World → Prop) (r : List (World → Prop)) (w : World) (X : Prop) : heldE (φ :: r) w X = (φ w ∧ heldE r w X) := rfl
theorem qNil_pt (a : Addr) (w : World) : qNil (.pointer (some a)) w = some (.pointer (some a), w) := rfl
theorem qPick_bool (t : Bool) (a b : Value) (w : World) : qPick (.bool t) a b w = some (if t then a else b, w) := rfl
theorem qGrd_bool (b want : Bool) (r : World → Option (Value × World)) (w : World) : qGrd (.bool b) want r w = if b = want then r w else some (undef, w) := rfl
theorem qGrd_undef (want : Bool) (r : World → Option (Value × World)) (w : World) : qGrd undef want r w = some (undef, w) := by simp [qGrd, undef]
theorem letK_def (K : KT) (X : KT → Prop) : letK K X = X K := rfl
theorem condE_join {b : Bool} {X Y : KT → Prop} {K : KT} (M : Env → World → Prop) (hx : b = true → ∀ K' : KT, (∀ e w, M e w → K' .normal e w) → X K')
    (hy : b = false → ∀ K' : KT, (∀ e w, M e w → K' .normal e w) → Y K') (hk : ∀ e w, M e w → K .normal e w) : condE (.bool b) X Y K :=
  ⟨b, rfl, fun h => hx h K hk, fun h => hy h K hk⟩
theorem drawE_of {X : (Env → World → Prop) → (List PanicEntry → Env → World → Prop) → Prop} {K : Env → World → Prop} {KP : List PanicEntry → Env → World → Prop}
    (M : Env → World → Prop) (h : ∀ k kp, (∀ e w, M e w → k e w) → X k kp) (hk : ∀ e w, M e w → K e w) : drawE X K KP := h K KP hk
theorem callE_of {P : Program} {f : FuncId} {args : Array Value} {w : World} {R : Ending → World → Prop} {K : Value → World → Prop} {KP : List PanicEntry → World → Prop}
    (h : Calls P f args w R) (hk : ∀ v w', R (.returned v) w' → K v w') (hp : ∀ c w', R (.panicked c) w' → KP c w') (ho : ∀ w', ¬ R .outgrown w') :
    callE P f args w K KP :=
  Calls.mono h fun e w' he => by
    cases e with
    | returned v => exact hk v w' he
    | panicked c => exact hp c w' he
    | outgrown => exact ho w' he
/-- What a call does that returns. -/
def Ret (P : Program) (f : FuncId) (args : Array Value) (w : World) (R : Value → World → Prop) : Prop :=
  Calls P f args w fun e w' => ∃ v, e = .returned v ∧ R v w'
theorem Ret.call {P : Program} {f : FuncId} {args : Array Value} {w : World} {R : Value → World → Prop} {K : Value → World → Prop} {KP : List PanicEntry → World → Prop}
    (h : Ret P f args w R) (hk : ∀ v w', R v w' → K v w') : callE P f args w K KP :=
  callE_of h (fun v w' h => by obtain ⟨u, hu, hr⟩ := h; cases hu; exact hk _ _ hr) (fun c w' h => by obtain ⟨u, hu, _⟩ := h; cases hu) (fun w' h => by obtain ⟨u, hu, _⟩ := h; cases hu)
theorem Ret.mono {P : Program} {f : FuncId} {args : Array Value} {w : World} {R R' : Value → World → Prop} (h : Ret P f args w R) (hr : ∀ v w', R v w' → R' v w') : Ret P f args w R' :=
  Calls.mono h fun e w' ⟨v, he, hv⟩ => ⟨v, he, hr v w' hv⟩
theorem loopE_of {B : Env → World → KT → Prop} {e : Env} {w : World} {K : KT} (I : Nat → Env → World → Prop) (n : Nat) (h0 : I n e w)
    (hs : ∀ n e w, I n e w → B e w (loopK I n K)) : loopE B e w K := ⟨I, ⟨n, h0⟩, hs⟩
end Go.Proofs.YtieejbkbdfccdaaGreat
