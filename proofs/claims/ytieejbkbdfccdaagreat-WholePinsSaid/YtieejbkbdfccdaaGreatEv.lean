/- A walker of our own for the code of one program: what a function does, as a chain of continuations; and that it is sound. -/
import Derived.Orders
import Derived.Laws.Sem
import Derived.Tactics
import Derived.KernelRfl
import Derived.RowKit3
import Derived.Test.YtieejbkbdfccdaaGreatSl
set_option linter.unusedVariables false
namespace Go.Proofs.YtieejbkbdfccdaaGreat
open Go
abbrev Env := Nat → Value
def Env.put (e : Env) (d : Nat) (v : Value) : Env := fun n => if n = d then v else e n
def Env.putO (e : Env) (d : Option Nat) (v : Value) : Env := match d with | some d => e.put d v | none => e
def Env.val (e : Env) : Operand → Value
  | .tmp t => e t
  | .const v => v
  | .global g => .pointer (some ⟨g, 0, none⟩)
  | .func f => .func (.func f) #[] #[]
def runV (P : Program) (s : Sem Value) (w : World) : Option (Value × World) :=
  match s.run P w with
  | .ok v w' => some (v, w')
  | .halt _ _ => none
def runU (P : Program) (s : Sem Unit) (w : World) : Option World :=
  match s.run P w with
  | .ok _ w' => some w'
  | .halt _ _ => none
def bindV (r : Option (Value × World)) (K : Value → World → Prop) : Prop := ∃ v w', r = some (v, w') ∧ K v w'
def bindU (r : Option World) (K : World → Prop) : Prop := ∃ w', r = some w' ∧ K w'
def callE (P : Program) (f : FuncId) (args : Array Value) (w : World) (K : Value → World → Prop) (KP : List PanicEntry → World → Prop) : Prop :=
  Calls P f args w fun
    | .returned v, w' => K v w'
    | .panicked c, w' => KP c w'
    | .outgrown, _ => False
def condE {α : Type} (c : Value) (X Y : α → Prop) (K : α) : Prop := ∃ b, c = .bool b ∧ (b = true → X K) ∧ (b = false → Y K)
def pickE (c a b : Value) (K : Value → Prop) : Prop := ∃ t, c = .bool t ∧ K (if t then a else b)
def grdE (c : Value) (want : Bool) (X : (Value → World → Prop) → Prop) (K : Value → World → Prop) (w : World) : Prop :=
  match c with
  | .bool b => (b = want → X K) ∧ (b = (!want) → K undef w)
  | _ => K undef w
def nilE (v : Value) (K : Value → Prop) : Prop := ∃ a, v = .pointer (some a) ∧ K v
def panicE (P : Program) (v : Value) (w : World) (KP : List PanicEntry → World → Prop) : Prop :=
  ∃ u w', (Instr.panic v).run P w = .halt (.panic u) w' ∧ KP [{ v := u, recovered := false }] w'
def thenK (N : Env → World → Prop) (K : Exit → Env → World → Prop) (x : Exit) (e : Env) (w : World) : Prop :=
  match x with
  | .normal => N e w
  | x => K x e w
def blockK (id : Nat) (K : Exit → Env → World → Prop) (x : Exit) (e : Env) (w : World) : Prop :=
  match x with
  | .exit i => if i = id then K .normal e w else K (.exit i) e w
  | x => K x e w
def loopK (I : Nat → Env → World → Prop) (n : Nat) (K : Exit → Env → World → Prop) (x : Exit) (e : Env) (w : World) : Prop :=
  match x with
  | .normal => ∃ m, m < n ∧ I m e w
  | x => K x e w
def loopE (B : Env → World → (Exit → Env → World → Prop) → Prop) (e : Env) (w : World) (K : Exit → Env → World → Prop) : Prop :=
  ∃ I : Nat → Env → World → Prop, (∃ n, I n e w) ∧ ∀ n e w, I n e w → B e w (loopK I n K)
def flagOp : Bool → Operand
  | true => .const undef
  | false => .tmp 0
def litOf : Operand → Operand → Bool
  | .const _, _ => true
  | _, .const _ => true
  | _, _ => false
theorem eqGuard_flag (op : BinOp) (t : TypeId) (x y : Operand) (a b : Value) :
    eqGuard op t x y a b = eqGuard op t (flagOp (litOf x y)) (.tmp 0) a b := by
  cases x <;> cases y <;> rfl
def pLoad (P : Program) (t : TypeId) (a : Value) (w : World) := runV P (Instr.loadAt t a) w
def pStore (P : Program) (t : TypeId) (a v : Value) (w : World) := runU P (Instr.storeAt t a v) w
def pBin (P : Program) (op : BinOp) (t : TypeId) (lit : Bool) (a b : Value) (w : World) :=
  runV P (do eqGuard op t (flagOp lit) (.tmp 0) a b; binOp op t a b) w
def pUn (P : Program) (op : UnOp) (a : Value) (w : World) := runV P (Op.unary op a) w
def pConv (P : Program) (s d : TypeId) (a : Value) (w : World) := runV P (convert s d a) w
def pAlloc (P : Program) (t : TypeId) (w : World) := runV P (Instr.alloc t true (.tuple #[])) w
def pBox (P : Program) (t : TypeId) (v : Value) (w : World) := runV P (Instr.box t v) w
def pBuild (P : Program) (t : TypeId) (ps : List (Nat × Value)) (w : World) := runV P (Instr.build t ps.toArray) w
def pBuildSlice (P : Program) (t : TypeId) (n : Nat) (ps : List (Nat × Value)) (w : World) := runV P (Instr.buildSlice t n ps.toArray) w
def pIface (P : Program) (t : TypeId) (v : Value) (w : World) := runV P (Instr.makeInterface t v) w
def pMake (P : Program) (t : TypeId) (l c : Value) (w : World) := runV P (Instr.makeSlice t l c) w
def pSlice (P : Program) (t : TypeId) (x : Value) (lo hi mx : Option Value) (w : World) := runV P (Instr.sliceAt t x lo hi mx) w
def pFieldAddr (P : Program) (t : TypeId) (x : Value) (f : Nat) (w : World) := runV P (Instr.fieldAt t x f) w
def pField (P : Program) (t : TypeId) (x : Value) (f : Nat) (w : World) := runV P (Instr.field t x f) w
def pIndexAddr (P : Program) (t : TypeId) (x i : Value) (w : World) := runV P (Instr.indexAt t x i) w
def pIndex (P : Program) (t : TypeId) (x i : Value) (w : World) := runV P (Instr.index t x i) w
def pExtract (P : Program) (x : Value) (i : Nat) (w : World) := runV P (Instr.extract x i) w
def pAssert (P : Program) (x : Value) (s d : TypeId) (ok : Bool) (w : World) := runV P (Instr.typeAssert x s d ok) w
def pBuiltin (P : Program) (b : Builtin) (ts : Array TypeId) (type : TypeId) (args : List Value) (w : World) : Option (Value × World) :=
  match b with
  | .append => runV P (Builtin.append_ ts type args.toArray) w
  | .cap => runV P (Builtin.cap_ ts type args.toArray) w
  | .copy => runV P (Builtin.copy_ ts type args.toArray) w
  | .len => runV P (Builtin.len_ ts type args.toArray) w
  | .max => runV P (Builtin.max_ ts type args.toArray) w
  | .min => runV P (Builtin.min_ ts type args.toArray) w
  | .delete => runV P (Builtin.delete_ ts type args.toArray) w
  | .clear => runV P (Builtin.clear_ ts type args.toArray) w
  | _ => none
def pExtern (P : Program) (f : FuncId) (args : List Value) (w : World) : Option (Value × World) :=
  match (callFunc f args.toArray).run P w with
  | .ok (.value v) w' => some (v, w')
  | _ => none
def pMakeMap (P : Program) (t : TypeId) (r : Option Value) (w : World) := runV P (Instr.makeMap t r) w
def pLookup (P : Program) (t : TypeId) (x i : Value) (ok : Bool) (w : World) := runV P (Instr.lookup t x i ok) w
def pMapUpdate (P : Program) (t : TypeId) (m k x : Value) (w : World) := runU P (Instr.mapUpdate t m k x) w
def pRange (P : Program) (t : TypeId) (x : Value) (w : World) := runV P (Instr.range t x) w
def pNext (P : Program) (x : Value) (s : Bool) (t : TypeId) (w : World) := runV P (Instr.next x s t) w
def pEntry (P : Program) (x : Value) (w : World) := runV P (Instr.entry x) w
def pFunc (P : Program) (fn : Fn) (first cap : List Value) (w : World) := runV P (Instr.makeFunc fn first.toArray cap.toArray) w
/-- A call of a function value. -/
def callVE (P : Program) (C : FuncId → Bool) (v : Value) (args : List Value) (w : World) (K : Value → World → Prop) (KP : List PanicEntry → World → Prop) : Prop :=
  ∃ f first cap, v = .func (.func f) first cap ∧ C f = true ∧ callE P f (first ++ args.toArray ++ cap) w K KP
def opE (P : Program) (C : FuncId → Bool) (o : Oper) (ρ : Operand → Value) (w : World) (K : Value → World → Prop)
    (KP : List PanicEntry → World → Prop) : Prop :=
  match o.op with
  | .move x => K (ρ x) w
  | .assign x => K (ρ x) w
  | .pick c a b => pickE (ρ c) (ρ a) (ρ b) fun v => K v w
  | .alloc t => bindV (pAlloc P t w) K
  | .box t x => bindV (pBox P t (ρ x) w) K
  | .build t ps => bindV (pBuild P t (ps.toList.map fun p => (p.1, ρ p.2)) w) K
  | .buildSlice t n ps => bindV (pBuildSlice P t n (ps.toList.map fun p => (p.1, ρ p.2)) w) K
  | .load t a => bindV (pLoad P t (ρ a) w) K
  | .store t a x => bindU (pStore P t (ρ a) (ρ x) w) (K undef)
  | .nilCheck x => nilE (ρ x) fun v => K v w
  | .binOp op t x y _ => bindV (pBin P op t (litOf x y) (ρ x) (ρ y) w) K
  | .unOp op _ x => bindV (pUn P op (ρ x) w) K
  | .convert s d x => bindV (pConv P s d (ρ x) w) K
  | .makeInterface t x => bindV (pIface P t (ρ x) w) K
  | .makeFunc fn first cap => bindV (pFunc P fn (first.toList.map ρ) (cap.toList.map ρ) w) K
  | .makeSlice t l c => bindV (pMake P t (ρ l) (ρ c) w) K
  | .slice t x lo hi mx => bindV (pSlice P t (ρ x) (lo.map ρ) (hi.map ρ) (mx.map ρ) w) K
  | .fieldAddr t x f => bindV (pFieldAddr P t (ρ x) f w) K
  | .field t x f => bindV (pField P t (ρ x) f w) K
  | .indexAddr t x i => bindV (pIndexAddr P t (ρ x) (ρ i) w) K
  | .index t x i => bindV (pIndex P t (ρ x) (ρ i) w) K
  | .extract x i => bindV (pExtract P (ρ x) i w) K
  | .typeAssert x s d ok => bindV (pAssert P (ρ x) s d ok w) K
  | .makeMap t r => bindV (pMakeMap P t (r.map ρ) w) K
  | .lookup t x i ok => bindV (pLookup P t (ρ x) (ρ i) ok w) K
  | .mapUpdate t m k x => bindU (pMapUpdate P t (ρ m) (ρ k) (ρ x) w) (K undef)
  | .range t x => bindV (pRange P t (ρ x) w) K
  | .next x s => bindV (pNext P (ρ x) s o.type w) K
  | .entry x => bindV (pEntry P (ρ x) w) K
  | .panic x => panicE P (ρ x) w KP
  | .call c =>
    match c.callee with
    | .value (.func f) =>
      match C f with
      | true => callE P f (c.args.toList.map ρ).toArray w K KP
      | false => bindV (pExtern P f (c.args.toList.map ρ) w) K
    | .value (.tmp t) => callVE P C (ρ (.tmp t)) (c.args.toList.map ρ) w K KP
    | .builtin .panic => panicE P ((c.args.toList.map ρ).headD .nilIface) w KP
    | .builtin b => bindV (pBuiltin P b c.argTypes o.type (c.args.toList.map ρ) w) K
    | _ => False
  | _ => False
def stepE (P : Program) (C : FuncId → Bool) (all : List Oper) (o : Oper) (e : Env) (w : World) (K : Value → World → Prop)
    (KP : List PanicEntry → World → Prop) : Prop :=
  match o.guard with
  | none => opE P C o e.val w K KP
  | some (j, want) =>
    match (all[j]?).bind (·.dst) with
    | some d => grdE (e d) want (fun K => opE P C o e.val w K KP) K w
    | none => False
def evOps (P : Program) (C : FuncId → Bool) (all : List Oper) : List Oper → Env → World → (Env → World → Prop) → (List PanicEntry → Env → World → Prop) → Prop
  | [], e, w, K, KP => K e w
  | o :: r, e, w, K, KP => stepE P C all o e w (fun v w' => evOps P C all r (e.putO o.dst v) w' K KP) (fun c w' => KP c e w')
/-- Every temporary that is written lies within the frame. -/
def dstsIn (nt : Nat) (ops : List Oper) : Bool := ops.all fun o => match o.dst with | some d => Nat.blt d nt | none => true
structure Agr (nt : Nat) (D : List Deferred) (e : Env) (a : Act) : Prop where
  size : a.tmps.size = nt
  val : ∀ t, a.tmps.getD t undef = e t
  defers : a.defers = D
theorem Agr.eval {nt : Nat} {D : List Deferred} {e : Env} {a : Act} (h : Agr nt D e a) : a.eval = e.val := by
  funext x; cases x <;> simp [Act.eval, Env.val, ← h.val]
theorem Agr.putO {nt : Nat} {D : List Deferred} {e : Env} {a : Act} (h : Agr nt D e a) {d : Option Nat} (hd : ∀ n, d = some n → n < nt) (v : Value) :
    Agr nt D (e.putO d v) (a.put d v) := by
  cases d with
  | none => exact h
  | some d =>
    refine ⟨by simp [Act.put, h.size], fun t => ?_, h.defers⟩
    have hlt : d < a.tmps.size := h.size ▸ hd d rfl
    simp only [Act.put, Env.putO, Env.put]
    by_cases ht : t = d
    · subst ht; simp [hlt]
    · have hne : d ≠ t := fun h => ht h.symm
      simp only [ht, if_false, ← h.val t]
      simp [Array.getElem?_setIfInBounds_ne hne]
theorem yielded_of {a : Act} {ops : Array Oper} {j d : Nat} {b : Bool}
    (hd : (ops[j]?).bind (·.dst) = some d) (hb : a.tmps.getD d undef = .bool b) : Go.yielded ops a.tmps j = some b := by
  unfold Go.yielded
  rw [hd]
  simp only [Option.bind_some]
  cases ht : a.tmps[d]? with
  | none => simp [ht, undef] at hb
  | some v => simp [ht] at hb; simp [hb]
theorem yielded_not {a : Act} {ops : Array Oper} {j d : Nat} {v : Value}
    (hd : (ops[j]?).bind (·.dst) = some d) (hv : a.tmps.getD d undef = v) (hb : ∀ b, v ≠ .bool b) : Go.yielded ops a.tmps j = none := by
  unfold Go.yielded
  rw [hd]
  simp only [Option.bind_some]
  cases ht : a.tmps[d]? with
  | none => rfl
  | some u =>
    simp [ht] at hv
    subst hv
    cases u <;> first | rfl | exact absurd rfl (hb _)
theorem run_v (P : Program) (s : Sem Value) (w : World) :
    ((do pure (.value (← s)) : Sem Next)).run P w = (s.run P w).andThen fun v w' => .ok (.value v) w' := by
  simp
section
variable {P : Program} {o : Oper} {a : Act} {next : Act → World → Prop} {Q : Exit → Act → World → Prop}
theorem upon_runV {s : Sem Value} {w : World} {K : Value → World → Prop} (h : bindV (runV P s w) K) (hK : ∀ v w', K v w' → next (a.put o.dst v) w') :
    o.upon P a next Q ((s.run P w).andThen fun v w' => .ok (.value v) w') := by
  obtain ⟨v, w', hr, hk⟩ := h
  unfold runV at hr
  cases hs : s.run P w with
  | ok v' w'' => rw [hs] at hr; simp only [Option.some.injEq, Prod.mk.injEq] at hr; obtain ⟨rfl, rfl⟩ := hr; exact hK _ _ hk
  | halt x w'' => rw [hs] at hr; simp at hr
end
theorem opE_sound {P : Program} {C : FuncId → Bool} (hC : ∀ f, C f = true → ∃ fn, P.funcs[f]? = some fn ∧ fn.body.isNone = false ∧ (fn.name == "runtime.NumGoroutine") = false)
    {o : Oper} {a : Act} {e : Env} {w : World} {next : Act → World → Prop} {Q : Exit → Act → World → Prop}
    {K : Value → World → Prop} {KP : List PanicEntry → World → Prop} (he : execOp a.eval o = execOp e.val o)
    (hK : ∀ v w', K v w' → next (a.put o.dst v) w') (hP : ∀ c w', KP c w' → Q (.panic c) a w')
    (h : opE P C o e.val w K KP) : o.wp P a w next Q := by
  unfold Oper.wp
  rw [he]
  unfold opE at h
  cases hop : o.op <;> simp only [hop] at h <;> simp only [execOp, hop]
  case move x => exact hK _ _ h
  case assign x => exact hK _ _ h
  case pick c x y =>
    obtain ⟨t, hc, hk⟩ := h
    simp only [hc, asBool, Sem.run_bind, Sem.run_pure, Result.andThen_ok]
    exact hK _ _ (by simpa using hk)
  case nilCheck x =>
    obtain ⟨ad, hv, hk⟩ := h
    simp only [hv] at hk ⊢
    exact hK _ _ hk
  case store t x y =>
    obtain ⟨w', hr, hk⟩ := h
    unfold pStore runU at hr
    simp only [Sem.run_bind]
    cases hs : (Instr.storeAt t (e.val x) (e.val y)).run P w with
    | ok v' w'' => rw [hs] at hr; simp only [Option.some.injEq] at hr; subst hr; exact hK _ _ hk
    | halt x w'' => rw [hs] at hr; simp at hr
  case mapUpdate t m k x =>
    obtain ⟨w', hr, hk⟩ := h
    unfold pMapUpdate runU at hr
    simp only [Sem.run_bind]
    cases hs : (Instr.mapUpdate t (e.val m) (e.val k) (e.val x)).run P w with
    | ok v' w'' => rw [hs] at hr; simp only [Option.some.injEq] at hr; subst hr; exact hK _ _ hk
    | halt x w'' => rw [hs] at hr; simp at hr
  case build t ps =>
    rw [run_v]
    refine upon_runV ?_ hK
    have : (ps.map fun x => match x with | (i, x) => (i, e.val x)) = (ps.toList.map fun p => (p.1, e.val p.2)).toArray := by
      apply Array.ext'
      simp
    simpa [pBuild, this] using h
  case buildSlice t n ps =>
    rw [run_v]
    refine upon_runV ?_ hK
    have : (ps.map fun x => match x with | (i, x) => (i, e.val x)) = (ps.toList.map fun p => (p.1, e.val p.2)).toArray := by
      apply Array.ext'
      simp
    simpa [pBuildSlice, this] using h
  case binOp op t x y _ =>
    rw [run_v]
    refine upon_runV ?_ hK
    rw [eqGuard_flag]
    exact h
  case makeFunc fn first cap =>
    rw [run_v]
    refine upon_runV ?_ hK
    have h1 : first.map e.val = (first.toList.map e.val).toArray := by apply Array.ext'; simp
    have h2 : cap.map e.val = (cap.toList.map e.val).toArray := by apply Array.ext'; simp
    simpa [pFunc, h1, h2] using h
  case panic x =>
    obtain ⟨u, w', hr, hk⟩ := h
    rw [run_v, hr]
    exact hP _ _ hk
  case call c =>
    have hargs : c.args.map e.val = (c.args.toList.map e.val).toArray := by
      apply Array.ext'; simp
    cases hc : c.callee with
    | value f =>
      cases f with
      | func f =>
        simp only [hc] at h
        cases hCf : C f with
        | true =>
          obtain ⟨fn, hfn, hb, hnm⟩ := hC f hCf
          simp only [hCf] at h
          simp only [Sem.run_bind, resolve, hc, Env.val, Deferred.ofValue, Sem.run_pure, Result.andThen_ok, invoke, callFunc, run_program, hfn, hb, hnm]
          simp only [Bool.false_eq_true, if_false, Sem.run_pure, Oper.upon, Array.append_empty, Array.empty_append, hargs]
          refine Calls.mono h fun e w' he => ?_
          cases e with
          | returned v => exact hK _ _ he
          | panicked c => exact hP _ _ he
          | outgrown => exact he.elim
        | false =>
          simp only [hCf] at h
          obtain ⟨v, w', hr, hk⟩ := h
          unfold pExtern at hr
          simp only [Sem.run_bind, resolve, hc, Env.val, Deferred.ofValue, Sem.run_pure, Result.andThen_ok, invoke, Array.append_empty, Array.empty_append, hargs]
          generalize (callFunc f (c.args.toList.map e.val).toArray).run P w = r at hr
          cases r with
          | halt x w'' => simp at hr
          | ok n w'' =>
            cases n <;> simp at hr
            obtain ⟨rfl, rfl⟩ := hr
            exact hK _ _ hk
      | tmp t =>
        simp only [hc] at h
        obtain ⟨f, first, cap, hv, hCf, h⟩ := h
        obtain ⟨fn, hfn, hb, hnm⟩ := hC f hCf
        simp only [Sem.run_bind, resolve, hc, hv, Deferred.ofValue, Sem.run_pure, Result.andThen_ok, invoke, callFunc, run_program, hfn, hb, hnm]
        simp only [Bool.false_eq_true, if_false, Sem.run_pure, Oper.upon, hargs]
        refine Calls.mono h fun e w' he => ?_
        cases e with
        | returned v => exact hK _ _ he
        | panicked c => exact hP _ _ he
        | outgrown => exact he.elim
      | _ => simp [hc] at h
    | invoke r m => simp [hc] at h
    | builtin b =>
      simp only [Sem.run_bind, resolve, hc, Sem.run_pure, Result.andThen_ok, invoke, builtin, hargs]
      cases b
      case panic =>
        simp only [hc] at h
        obtain ⟨u, w', hr, hk⟩ := h
        have h0 : ((c.args.toList.map e.val).toArray).getD 0 .nilIface = (c.args.toList.map e.val).headD .nilIface := by
          cases c.args.toList <;> simp
        simp only [h0, run_v, hr]
        exact hP _ _ hk
      all_goals (simp only [hc] at h; first
        | (simp only [run_v]; exact upon_runV h hK)
        | (obtain ⟨v, w', hr, hk⟩ := h; simp [pBuiltin] at hr))
  all_goals first
    | exact h.elim
    | (rw [run_v]; exact upon_runV h hK)
abbrev Bodies (P : Program) (C : FuncId → Bool) : Prop :=
  ∀ f, C f = true → ∃ fn, P.funcs[f]? = some fn ∧ fn.body.isNone = false ∧ (fn.name == "runtime.NumGoroutine") = false
def lift (nt : Nat) (D : List Deferred) (Q : Exit → Env → World → Prop) (x : Exit) (a : Act) (w : World) : Prop := ∃ e, Agr nt D e a ∧ Q x e w
theorem stepE_sound {P : Program} {C : FuncId → Bool} (hC : Bodies P C) {ops : Array Oper} {i : Nat} {o : Oper} (hi : ops[i]? = some o)
    {a : Act} {e : Env} {w : World} {K' : Act → World → Prop} {Q : Exit → Act → World → Prop}
    {K : Value → World → Prop} {KP : List PanicEntry → World → Prop} (he : execOp a.eval o = execOp e.val o)
    (hg : ∀ j want d, o.guard = some (j, want) → (ops[j]?).bind (·.dst) = some d → a.tmps.getD d undef = e d)
    (hK : ∀ v w', K v w' → K' (a.put o.dst v) w') (hP : ∀ c w', KP c w' → Q (.panic c) a w')
    (h : stepE P C ops.toList o e w K KP) : wpOp P ops Q i K' a w := by
  unfold wpOp
  simp only [hi]
  unfold stepE at h
  cases hgd : o.guard with
  | none =>
    simp only [hgd] at h
    have hw : Region.wanted o (yielded ops a.tmps) = true := by simp [Region.wanted, hgd]
    simp only [hw, if_true]
    exact .inl (opE_sound hC he hK hP h)
  | some jw =>
    obtain ⟨j, want⟩ := jw
    simp only [hgd] at h
    have hl : (ops.toList[j]?) = ops[j]? := by simp
    rw [hl] at h
    cases hd : (ops[j]?).bind (·.dst) with
    | none => simp only [hd] at h
    | some d =>
      simp only [hd] at h
      have hv := hg j want d hgd hd
      unfold grdE at h
      cases hb : e d with
      | bool b =>
        simp only [hb] at h
        obtain ⟨ht, hf⟩ := h
        have hy := yielded_of (a := a) hd (hv.trans hb)
        by_cases hbw : b = want
        · have hw : Region.wanted o (yielded ops a.tmps) = true := by simp [Region.wanted, hgd, hy, hbw]
          simp only [hw, if_true]
          exact .inl (opE_sound hC he hK hP (ht hbw))
        · have hw : Region.wanted o (yielded ops a.tmps) = false := by simp [Region.wanted, hgd, hy, hbw]
          simp only [hw]
          exact hK _ _ (hf (by cases b <;> cases want <;> simp_all))
      | _ =>
        simp only [hb] at h
        have hy := yielded_not (a := a) hd (hv.trans hb) (by intro b; simp)
        have hw : Region.wanted o (yielded ops a.tmps) = false := by simp [Region.wanted, hgd, hy]
        simp only [hw]
        exact hK _ _ h
theorem dstsIn_mem {nt : Nat} {ops : List Oper} (h : dstsIn nt ops = true) {o : Oper} (ho : o ∈ ops) : ∀ n, o.dst = some n → n < nt := by
  intro n hn
  have := List.all_eq_true.1 h o ho
  simp only [hn] at this
  simpa using this
theorem evOps_sound {P : Program} {C : FuncId → Bool} (hC : Bodies P C) {nt : Nat} {D : List Deferred} {ops : Array Oper} (hd : dstsIn nt ops.toList = true)
    {Q : Exit → Env → World → Prop} : ∀ (rest : List Oper) (i : Nat), ops.toList.drop i = rest → ∀ e a w, Agr nt D e a →
      evOps P C ops.toList rest e w (Q .normal) (fun c => Q (.panic c)) → wpOps P ops (lift nt D Q) (List.range' i rest.length) a w := by
  intro rest
  induction rest with
  | nil => intro i _ e a w hag h; exact ⟨e, hag, h⟩
  | cons o r ih =>
    intro i hi e a w hag h
    have hoi : ops[i]? = some o := by
      have : (ops.toList.drop i)[0]? = some o := by rw [hi]; rfl
      simpa using this
    have hr : ops.toList.drop (i + 1) = r := by
      have : (ops.toList.drop i).drop 1 = r := by rw [hi]; rfl
      simpa [List.drop_drop, Nat.add_comm] using this
    have hmem : o ∈ ops.toList := by
      have : o ∈ ops.toList.drop i := by rw [hi]; exact List.mem_cons_self
      exact List.mem_of_mem_drop this
    simp only [List.length_cons, List.range'_succ, wpOps_cons]
    refine stepE_sound hC hoi (by rw [hag.eval]) (fun j want d _ _ => hag.val d) (fun v w' hk => ?_) (fun c w' hp => ⟨e, hag, hp⟩) h
    exact ih (i + 1) hr _ _ _ (hag.putO (dstsIn_mem hd hmem) v) hk
/-! ### Regions whose order is drawn -/
def quiet (o : Oper) : Bool :=
  match o.op with
  | .move _ | .pick .. | .load .. | .binOp .. | .unOp .. | .fieldAddr .. | .field .. | .indexAddr .. | .index .. | .extract .. | .nilCheck _
  | .slice .. | .makeInterface .. => true
  | .convert _ d _ => !slTypes.contains d
  | .call { callee := .builtin .len, .. } | .call { callee := .builtin .cap, .. } | .call { callee := .builtin .min, .. } | .call { callee := .builtin .max, .. } => true
  | _ => false
def quietV (P : Program) (o : Oper) (ρ : Operand → Value) (w : World) : Option (Value × World) :=
  match o.op with
  | .move x => some (ρ x, w)
  | .pick c a b => match ρ c with | .bool t => some (if t then ρ a else ρ b, w) | _ => none
  | .load t a => pLoad P t (ρ a) w
  | .nilCheck x => match ρ x with | .pointer (some a) => some (.pointer (some a), w) | _ => none
  | .binOp op t x y _ => pBin P op t (litOf x y) (ρ x) (ρ y) w
  | .unOp op _ x => pUn P op (ρ x) w
  | .convert s d x => pConv P s d (ρ x) w
  | .makeInterface t x => pIface P t (ρ x) w
  | .slice t x lo hi mx => pSlice P t (ρ x) (lo.map ρ) (hi.map ρ) (mx.map ρ) w
  | .fieldAddr t x f => pFieldAddr P t (ρ x) f w
  | .field t x f => pField P t (ρ x) f w
  | .indexAddr t x i => pIndexAddr P t (ρ x) (ρ i) w
  | .index t x i => pIndex P t (ρ x) (ρ i) w
  | .extract x i => pExtract P (ρ x) i w
  | .call c =>
    match c.callee with
    | .builtin b => pBuiltin P b c.argTypes o.type (c.args.toList.map ρ) w
    | _ => none
  | _ => none
theorem runV_ok {P : Program} {s : Sem Value} {w w' : World} {v : Value} (h : runV P s w = some (v, w')) : s.run P w = .ok v w' := by
  unfold runV at h
  cases hs : s.run P w with
  | ok v' w'' => rw [hs] at h; simp only [Option.some.injEq, Prod.mk.injEq] at h; obtain ⟨rfl, rfl⟩ := h; rfl
  | halt x w'' => rw [hs] at h; simp at h
theorem quietV_sound {P : Program} {o : Oper} {ρ : Operand → Value} {w w' : World} {v : Value} (h : quietV P o ρ w = some (v, w')) :
    (execOp ρ o).run P w = .ok (.value v) w' := by
  unfold quietV at h
  cases hop : o.op <;> simp only [hop] at h <;> simp only [execOp, hop]
  case move x => simp only [Option.some.injEq, Prod.mk.injEq] at h; obtain ⟨rfl, rfl⟩ := h; rfl
  case pick c x y =>
    cases hc : ρ c <;> simp only [hc, Option.some.injEq, Prod.mk.injEq, reduceCtorEq] at h
    obtain ⟨rfl, rfl⟩ := h
    simp [asBool]
  case nilCheck x =>
    cases hc : ρ x with
    | pointer p =>
      cases p with
      | none => simp [hc] at h
      | some p => simp only [hc, Option.some.injEq, Prod.mk.injEq] at h; obtain ⟨rfl, rfl⟩ := h; rfl
    | _ => simp [hc] at h
  case call c =>
    have hargs : c.args.map ρ = (c.args.toList.map ρ).toArray := by
      apply Array.ext'; simp
    cases hc : c.callee with
    | builtin b =>
      simp only [hc] at h
      simp only [Sem.run_bind, resolve, hc, Sem.run_pure, Result.andThen_ok, invoke, builtin, hargs]
      cases b <;> first
        | (simp only [run_v]; have h2 := runV_ok h; rw [h2]; rfl)
        | (simp [pBuiltin] at h)
    | _ => simp [hc] at h
  case binOp op t x y _ =>
    have h2 := runV_ok h
    rw [← eqGuard_flag] at h2
    rw [run_v, h2]; rfl
  all_goals first
    | (simp at h; done)
    | (rw [run_v]; have h2 := runV_ok h; rw [h2]; rfl)
def quietG (P : Program) (all : List Oper) (e : Env) (o : Oper) (w : World) : Option (Value × World) :=
  match o.guard with
  | none => quietV P o e.val w
  | some (j, want) =>
    match (all[j]?).bind (·.dst) with
    | some d => match e d with
      | .bool b => if b = want then quietV P o e.val w else some (undef, w)
      | _ => some (undef, w)
    | none => none
def opAt (ops : Array Oper) (i : Nat) : Oper := ops.getD i default
def reach (ops : Array Oper) (j : Nat) : Nat → Nat → Bool
  | 0, _ => false
  | n + 1, i => (opAt ops i).after.toList.any fun e => Region.binds .any e && (Nat.beq e.on j || reach ops j n e.on)
def direct (ops : Array Oper) (i j : Nat) : Bool := (opAt ops i).after.toList.any fun e => Region.binds .any e && Nat.beq e.on j
def takeE (r : World → Option (Value × World)) (w : World) (X : Value → (World → Prop) → Prop) : Prop :=
  ∃ v, r w = some (v, w) ∧ X v (fun w' => r w' = some (v, w'))
def heldE : List (World → Prop) → World → Prop → Prop
  | [], _, X => X
  | φ :: r, w, X => φ w ∧ heldE r w X
def allE : List Nat → (Nat → Prop) → Prop
  | [], _ => True
  | [i], X => X i
  | i :: r, X => X i ∧ allE r X
theorem heldE_spec {l : List (World → Prop)} {w : World} {X : Prop} (h : heldE l w X) : X ∧ ∀ φ ∈ l, φ w := by
  induction l with
  | nil => exact ⟨h, by simp⟩
  | cons φ r ih => obtain ⟨h1, h2⟩ := h; obtain ⟨hx, hr⟩ := ih h2; exact ⟨hx, by simpa using ⟨h1, hr⟩⟩
theorem allE_spec {l : List Nat} {X : Nat → Prop} (h : allE l X) : ∀ i ∈ l, X i := by
  induction l with
  | nil => simp
  | cons i r ih =>
    cases r with
    | nil => simpa [allE] using h
    | cons k r => obtain ⟨h1, h2⟩ := h; simpa using ⟨h1, by simpa using ih h2⟩
/-- What the operations write that have come up. -/
def dstsOn (ops : Array Oper) (listed : Array Bool) : List Nat := (List.range ops.size).filterMap fun i => if listed.getD i false then (opAt ops i).dst else none
def agreeOff (ds : List Nat) (e e' : Env) : Prop := ∀ t, ds.contains t = false → e' t = e t
theorem not_dst {ops : Array Oper} {listed : Array Bool} {t i : Nat} (h : (dstsOn ops listed).contains t = false) (hi : i < ops.size) (hl : listed.getD i false = true) : (opAt ops i).dst ≠ some t := by
  intro hd
  have : t ∈ dstsOn ops listed := List.mem_filterMap.2 ⟨i, List.mem_range.2 hi, by rw [hl]; exact hd⟩
  rw [List.contains_eq_mem] at h
  exact absurd this (by simpa using h)
def evD (P : Program) (C : FuncId → Bool) (ops : Array Oper) : Nat → Array Bool → List (Nat × (World → Prop)) → Env → World →
    (Env → World → Prop) → (List PanicEntry → Env → World → Prop) → Prop
  | 0, _, _, _, _, _, _ => False
  | f + 1, listed, H, e, w, K, KP =>
    match (Region.ready .any ops listed).find? (fun j => quiet (opAt ops j)) with
    | some j => takeE (quietG P ops.toList e (opAt ops j)) w fun v φ =>
        evD P C ops f (listed.setIfInBounds j true) ((j, φ) :: H) (e.putO (opAt ops j).dst v) w K KP
    | none =>
      match Region.ready .any ops listed with
      | [] => K e w
      | r :: rs => allE (r :: rs) fun i =>
        stepE P C ops.toList (opAt ops i) e w
          (fun v w' => heldE ((H.filter fun h => !reach ops h.1 ops.size i).map (·.2)) w'
            (evD P C ops f (listed.setIfInBounds i true) (H.filter fun h => !reach ops h.1 ops.size i) (e.putO (opAt ops i).dst v) w' K KP))
          (fun c w' => ∀ e', agreeOff (dstsOn ops listed) e e' → KP c e' w')
def noSel (o : Oper) : Bool := match o.op with | .select .. => false | _ => true
def pairOk (ops : Array Oper) (i j : Nat) : Bool :=
  !quiet (opAt ops j) ||
  ((match (opAt ops j).dst with
    | none => true
    | some d => (Nat.beq i j || !decide ((opAt ops i).dst = some d)) &&
        (!((opAt ops i).looksAt ops).contains d || (!Nat.beq i j && direct ops i j))) &&
   (quiet (opAt ops i) || match (opAt ops i).dst with
    | none => true
    | some d => !((opAt ops j).looksAt ops).contains d || direct ops j i || reach ops j ops.size i))
def drawOk (nt : Nat) (ops : Array Oper) : Bool :=
  dstsIn nt ops.toList &&
  (List.range ops.size).all fun i =>
    (opAt ops i).after.toList.all (fun e => !Region.binds .any e || Nat.blt e.on i) && noSel (opAt ops i) &&
    (List.range ops.size).all fun j => pairOk ops i j
structure DrawOk (nt : Nat) (ops : Array Oper) : Prop where
  dst : ∀ i, i < ops.size → ∀ d, (opAt ops i).dst = some d → d < nt
  lt : ∀ i, i < ops.size → ∀ x ∈ (opAt ops i).after, Region.binds .any x = true → x.on < i
  sel : ∀ i, i < ops.size → ∀ cs b, (opAt ops i).op ≠ .select cs b
  a : ∀ i j, i < ops.size → j < ops.size → quiet (opAt ops j) = true → i ≠ j → ∀ d, (opAt ops j).dst = some d →
    (opAt ops i).dst ≠ some d
  b : ∀ i j, i < ops.size → j < ops.size → quiet (opAt ops j) = true → ∀ d, (opAt ops j).dst = some d →
    d ∈ (opAt ops i).looksAt ops → i ≠ j ∧ ∃ x ∈ (opAt ops i).after, Region.binds .any x = true ∧ x.on = j
  c : ∀ i j, i < ops.size → j < ops.size → quiet (opAt ops j) = true → quiet (opAt ops i) = false →
    ∀ d, (opAt ops i).dst = some d → d ∈ (opAt ops j).looksAt ops →
    (∃ x ∈ (opAt ops j).after, Region.binds .any x = true ∧ x.on = i) ∨ reach ops j ops.size i = true
theorem direct_spec {ops : Array Oper} {i j : Nat} (h : direct ops i j = true) :
    ∃ x ∈ (opAt ops i).after, Region.binds .any x = true ∧ x.on = j := by
  unfold direct at h
  obtain ⟨x, hx, hb⟩ := List.any_eq_true.1 h
  simp only [Bool.and_eq_true] at hb
  exact ⟨x, by simpa using hx, hb.1, Nat.eq_of_beq_eq_true hb.2⟩
theorem drawOk_spec {nt : Nat} {ops : Array Oper} (h : drawOk nt ops = true) : DrawOk nt ops := by
  simp only [drawOk, Bool.and_eq_true, List.all_eq_true, List.mem_range] at h
  obtain ⟨hd, hall⟩ := h
  have hp : ∀ i j, i < ops.size → j < ops.size → pairOk ops i j = true := fun i j hi hj => (hall i hi).2 j hj
  refine ⟨fun i hi d hdi => ?_, fun i hi x hx hb => ?_, fun i hi cs b hop => ?_, fun i j hi hj hq hne d hdj heq => ?_, fun i j hi hj hq d hdj hl => ?_, fun i j hi hj hq hqi d hdi hl => ?_⟩
  · refine dstsIn_mem hd (o := opAt ops i) ?_ d hdi
    simp [opAt, Array.getElem?_eq_getElem hi]
  · have := (hall i hi).1.1 x (by simpa using hx)
    simpa [hb] using this
  · have := (hall i hi).1.2
    unfold noSel at this
    rw [hop] at this
    exact absurd this (by simp)
  · have := hp i j hi hj
    simp only [pairOk, hq, hdj, Bool.not_true, Bool.false_or, Bool.and_eq_true, Bool.or_eq_true, Bool.not_eq_true'] at this
    obtain ⟨⟨h1, h2⟩, h3⟩ := this
    rcases h1 with h1 | h1
    · exact hne (Nat.eq_of_beq_eq_true h1)
    · rw [heq] at h1; exact absurd h1 (by simp)
  · have := hp i j hi hj
    simp only [pairOk, hq, hdj, Bool.not_true, Bool.false_or, Bool.and_eq_true, Bool.or_eq_true, Bool.not_eq_true'] at this
    obtain ⟨⟨h1, h2⟩, h3⟩ := this
    rcases h2 with h2 | ⟨h2, h4⟩
    · rw [List.contains_eq_mem] at h2; exact absurd hl (by simpa using h2)
    · exact ⟨fun heq => by subst heq; simp at h2, direct_spec h4⟩
  · have := hp i j hi hj
    simp only [pairOk, hq, hqi, hdi, Bool.not_true, Bool.false_or, Bool.and_eq_true, Bool.or_eq_true, Bool.not_eq_true'] at this
    obtain ⟨h1, h3⟩ := this
    rcases h3 with (h3 | h3) | h3
    · rw [List.contains_eq_mem] at h3; exact absurd hl (by simpa using h3)
    · exact .inl (direct_spec h3)
    · exact .inr h3
def On (l : Array Bool) (i : Nat) : Prop := l.getD i false = true
theorem on_set {l : Array Bool} {i j : Nat} (hj : j < l.size) : On (l.setIfInBounds j true) i ↔ i = j ∨ On l i := by
  unfold On
  by_cases h : i = j
  · subst h; simp [hj]
  · simp [h, Array.getElem?_setIfInBounds_ne (fun h' => h h'.symm)]
theorem on_lt {l : Array Bool} {i : Nat} (h : On l i) : i < l.size := by
  rcases Nat.lt_or_ge i l.size with h' | h'
  · exact h'
  · simp [On, Array.getElem?_eq_none h'] at h
theorem off_iff {l : Array Bool} {i : Nat} (hi : i < l.size) : l.getD i true = false ↔ ¬ On l i := by
  unfold On; simp [hi]
theorem get_some {ops : Array Oper} {i : Nat} (hi : i < ops.size) : ops[i]? = some (opAt ops i) := by simp [opAt, hi]
theorem ready_iff {ops : Array Oper} {l : Array Bool} {i : Nat} (hs : l.size = ops.size) : i ∈ Region.ready .any ops l ↔
    i < ops.size ∧ ¬ On l i ∧ ∀ x ∈ (opAt ops i).after, Region.binds .any x = true → On l x.on := by
  rw [mem_ready]
  constructor
  · rintro ⟨h0, o, ho, hall⟩
    have hi : i < ops.size := (Array.getElem?_eq_some_iff.1 ho).1
    have hoe : opAt ops i = o := by simp [opAt, ho]
    exact ⟨hi, (off_iff (hs ▸ hi)).1 h0, by rw [hoe]; exact hall⟩
  · rintro ⟨hi, h0, hall⟩
    exact ⟨(off_iff (hs ▸ hi)).2 h0, _, get_some hi, hall⟩
structure Rel (P : Program) (nt : Nat) (D : List Deferred) (ops : Array Oper) (listed listedE : Array Bool) (H : List (Nat × (World → Prop))) (e : Env) (a : Act) (w : World) : Prop where
  s1 : listed.size = ops.size
  s2 : listedE.size = ops.size
  sub : ∀ i, On listed i → On listedE i
  dc1 : ∀ i, On listed i → ∀ x ∈ (opAt ops i).after, Region.binds .any x = true → On listed x.on
  dc2 : ∀ i, On listedE i → ∀ x ∈ (opAt ops i).after, Region.binds .any x = true → On listedE x.on
  held : ∀ i, On listedE i → ¬ On listed i → quiet (opAt ops i) = true ∧ ∃ v e' φ, (i, φ) ∈ H ∧ φ w ∧
    (∀ w', φ w' ↔ quietG P ops.toList e' (opAt ops i) w' = some (v, w')) ∧
    (∀ t ∈ (opAt ops i).looksAt ops, e' t = e t) ∧ (∀ d, (opAt ops i).dst = some d → e d = v)
  size : a.tmps.size = nt
  defers : a.defers = D
  agr : ∀ t, (∀ i, On listedE i → ¬ On listed i → (opAt ops i).dst ≠ some t) → a.tmps.getD t undef = e t
theorem reach_on {ops : Array Oper} {l : Array Bool} (dc : ∀ i, On l i → ∀ x ∈ (opAt ops i).after, Region.binds .any x = true → On l x.on)
    {j : Nat} : ∀ n i, (∀ x ∈ (opAt ops i).after, Region.binds .any x = true → On l x.on) → reach ops j n i = true → On l j := by
  intro n
  induction n with
  | zero => intro i _ h; simp [reach] at h
  | succ n ih =>
    intro i hi h
    unfold reach at h
    obtain ⟨x, hx, hb⟩ := List.any_eq_true.1 h
    simp only [Bool.and_eq_true, Bool.or_eq_true] at hb
    have hon := hi x (by simpa using hx) hb.1
    rcases hb.2 with h2 | h2
    · exact Nat.eq_of_beq_eq_true h2 ▸ hon
    · exact ih x.on (dc _ hon) h2
theorem exec_same {ops : Array Oper} {o : Oper} (hs : ∀ cs b, o.op ≠ .select cs b) {a : Act} {e : Env}
    (h : ∀ t ∈ o.looksAt ops, a.tmps.getD t undef = e t) : execOp a.eval o = execOp e.val o :=
  execOp_congr o hs fun x hx => by
    cases x with
    | tmp t =>
      have : t ∈ o.looksAt ops := List.mem_append_left _ (List.mem_filterMap.2 ⟨.tmp t, by simpa using hx, rfl⟩)
      exact h t this
    | _ => rfl
theorem guard_looks {ops : Array Oper} {o : Oper} {j d : Nat} {want : Bool} (hg : o.guard = some (j, want)) (hd : (ops[j]?).bind (·.dst) = some d) :
    d ∈ o.looksAt ops := by
  refine List.mem_append_right _ ?_
  simp [hg, hd]
section
variable {P : Program} {nt : Nat} {D : List Deferred} {ops : Array Oper} {listed listedE : Array Bool} {H : List (Nat × (World → Prop))} {e : Env} {a : Act} {w : World}
theorem Rel.looks (hr : Rel P nt D ops listed listedE H e a w) (hok : DrawOk nt ops) {i : Nat} (hi : i ∈ Region.ready .any ops listed) :
    ∀ t ∈ (opAt ops i).looksAt ops, a.tmps.getD t undef = e t := by
  intro t ht
  obtain ⟨hlt, hoff, hpre⟩ := (ready_iff hr.s1).1 hi
  refine hr.agr t fun k hkE hk hdk => ?_
  have hkl : k < ops.size := hr.s2 ▸ on_lt hkE
  obtain ⟨_, x, hx, hb, hxk⟩ := hok.b i k hlt hkl (hr.held k hkE hk).1 t hdk ht
  exact hk (hxk ▸ hpre x hx hb)
/-- The walker takes a quiet operation ahead. -/
theorem Rel.ahead (hr : Rel P nt D ops listed listedE H e a w) (hok : DrawOk nt ops) {j : Nat} (hj : j ∈ Region.ready .any ops listedE)
    (hq : quiet (opAt ops j) = true) {v : Value} (hv : quietG P ops.toList e (opAt ops j) w = some (v, w)) :
    Rel P nt D ops listed (listedE.setIfInBounds j true)
      ((j, fun w' => quietG P ops.toList e (opAt ops j) w' = some (v, w')) :: H) (e.putO (opAt ops j).dst v) a w := by
  obtain ⟨hlt, hoff, hpre⟩ := (ready_iff hr.s2).1 hj
  have hs : j < listedE.size := hr.s2 ▸ hlt
  have hoffL : ¬ On listed j := fun h => hoff (hr.sub j h)
  have keep : ∀ t, (∀ d, (opAt ops j).dst = some d → t ≠ d) → (e.putO (opAt ops j).dst v) t = e t := by
    intro t ht
    cases hd : (opAt ops j).dst with
    | none => rfl
    | some d => simp [Env.putO, Env.put, ht d hd]
  refine ⟨hr.s1, by simp [hr.s2], fun i h => (on_set hs).2 (.inr (hr.sub i h)), hr.dc1, fun i h x hx hb => ?_, fun i h h' => ?_, hr.size, hr.defers, fun t ht => ?_⟩
  · rcases (on_set hs).1 h with rfl | h
    · exact (on_set hs).2 (.inr (hpre x hx hb))
    · exact (on_set hs).2 (.inr (hr.dc2 i h x hx hb))
  · by_cases hij : i = j
    · subst hij
      refine ⟨hq, v, e, _, List.mem_cons_self, hv, fun _ => Iff.rfl, fun t ht => (keep t fun d hd htd => ?_).symm, fun d hd => ?_⟩
      · subst htd; exact (hok.b i i hlt hlt hq t hd ht).1 rfl
      · simp [Env.putO, hd, Env.put]
    · have hE : On listedE i := ((on_set hs).1 h).resolve_left hij
      have hil : i < ops.size := hr.s2 ▸ on_lt hE
      obtain ⟨hqi, u, e', φ, hm, hw, hiff, hlk, hdst⟩ := hr.held i hE h'
      refine ⟨hqi, u, e', φ, List.mem_cons_of_mem _ hm, hw, hiff, fun t ht => ?_, fun d hd => ?_⟩
      · rw [hlk t ht]
        refine (keep t fun d hd htd => ?_).symm
        subst htd
        obtain ⟨_, x, hx, hb, hxj⟩ := hok.b i j hil hlt hq t hd ht
        exact hoff (hxj ▸ hr.dc2 i hE x hx hb)
      · rw [keep d fun d' hd' h => by subst h; exact hok.a i j hil hlt hq hij d hd' hd]
        exact hdst d hd
  · rw [keep t fun d hd h => by subst h; exact ht j ((on_set hs).2 (.inl rfl)) hoffL hd]
    exact hr.agr t fun i hE hi => ht i ((on_set hs).2 (.inr hE)) hi
/-- The machine comes to an operation that the walker has taken already. -/
theorem Rel.take (hr : Rel P nt D ops listed listedE H e a w) (hok : DrawOk nt ops) {i : Nat} (hi : i ∈ Region.ready .any ops listed) (hE : On listedE i) :
    ∃ v, (∀ (Q : Exit → Act → World → Prop) (K : Act → World → Prop), K (a.put (opAt ops i).dst v) w → wpOp P ops Q i K a w) ∧
      Rel P nt D ops (listed.setIfInBounds i true) listedE H e (a.put (opAt ops i).dst v) w := by
  obtain ⟨hlt, hoff, hpre⟩ := (ready_iff hr.s1).1 hi
  have hs : i < listed.size := hr.s1 ▸ hlt
  obtain ⟨hq, v, e', φ, hm, hw, hiff, hlk, hdst⟩ := hr.held i hE hoff
  have hlooks := hr.looks hok hi
  have hrun := (hiff w).1 hw
  have hlk' : ∀ t ∈ (opAt ops i).looksAt ops, a.tmps.getD t undef = e' t := fun t ht => (hlooks t ht).trans (hlk t ht).symm
  have hex := exec_same (hok.sel i hlt) hlk'
  refine ⟨v, fun Q K hK => ?_, ?_⟩
  · unfold wpOp
    simp only [get_some hlt]
    unfold quietG at hrun
    cases hgd : (opAt ops i).guard with
    | none =>
      simp only [hgd] at hrun
      have hw : Region.wanted (opAt ops i) (yielded ops a.tmps) = true := by simp [Region.wanted, hgd]
      simp only [hw, if_true]
      refine .inl ?_
      unfold Oper.wp
      rw [hex, quietV_sound hrun]
      exact hK
    | some jw =>
      obtain ⟨j, want⟩ := jw
      simp only [hgd] at hrun
      have hl : (ops.toList[j]?) = ops[j]? := by simp
      rw [hl] at hrun
      cases hd : (ops[j]?).bind (·.dst) with
      | none => simp [hd] at hrun
      | some d =>
        simp only [hd] at hrun
        cases hb : e' d with
        | bool b =>
          simp only [hb] at hrun
          have hy := yielded_of (a := a) hd ((hlk' d (guard_looks hgd hd)).trans hb)
          by_cases hbw : b = want
          · rw [if_pos hbw] at hrun
            have hw : Region.wanted (opAt ops i) (yielded ops a.tmps) = true := by simp [Region.wanted, hgd, hy, hbw]
            simp only [hw, if_true]
            refine .inl ?_
            unfold Oper.wp
            rw [hex, quietV_sound hrun]
            exact hK
          · rw [if_neg hbw] at hrun
            have hw : Region.wanted (opAt ops i) (yielded ops a.tmps) = false := by simp [Region.wanted, hgd, hy, hbw]
            simp only [hw]
            simp only [Option.some.injEq, Prod.mk.injEq, and_true] at hrun
            subst hrun
            exact hK
        | _ =>
          simp only [hb, Option.some.injEq, Prod.mk.injEq, and_true] at hrun
          subst hrun
          have hy := yielded_not (a := a) hd ((hlk' d (guard_looks hgd hd)).trans hb) (by intro b; simp)
          have hw : Region.wanted (opAt ops i) (yielded ops a.tmps) = false := by simp [Region.wanted, hgd, hy]
          simp only [hw]
          exact hK
  · refine ⟨by simp [hr.s1], hr.s2, fun k h => ?_, fun k h x hx hb => ?_, hr.dc2, fun k hkE hk => hr.held k hkE fun h => hk ((on_set hs).2 (.inr h)), ?_, ?_, fun t ht => ?_⟩
    · rcases (on_set hs).1 h with rfl | h
      · exact hE
      · exact hr.sub k h
    · rcases (on_set hs).1 h with rfl | h
      · exact (on_set hs).2 (.inr (hpre x hx hb))
      · exact (on_set hs).2 (.inr (hr.dc1 k h x hx hb))
    · cases (opAt ops i).dst <;> simp [Act.put, hr.size]
    · cases (opAt ops i).dst <;> exact hr.defers
    · by_cases hti : (opAt ops i).dst = some t
      · have : t < a.tmps.size := hr.size ▸ hok.dst i hlt t hti
        rw [hti, hdst t hti]
        simp [Act.put, this]
      · have hput : (a.put (opAt ops i).dst v).tmps.getD t undef = a.tmps.getD t undef := by
          cases hd : (opAt ops i).dst with
          | none => rfl
          | some d =>
            have hne : d ≠ t := fun h => hti (by rw [hd, h])
            simp [Act.put, Array.getElem?_setIfInBounds_ne hne]
        rw [hput]
        refine hr.agr t fun k hkE hk => ?_
        by_cases hki : k = i
        · subst hki; exact hti
        · exact ht k hkE fun h => hk (((on_set hs).1 h).resolve_left hki)
/-- Both carry out an operation that acts. -/
theorem Rel.both (hr : Rel P nt D ops listed listedE H e a w) (hok : DrawOk nt ops) {i : Nat} (hi : i ∈ Region.ready .any ops listed) (hE : ¬ On listedE i)
    (hqi : quiet (opAt ops i) = false) (v : Value) {w' : World}
    (hH : ∀ φ ∈ (H.filter fun h => !reach ops h.1 ops.size i).map (·.2), φ w') :
    Rel P nt D ops (listed.setIfInBounds i true) (listedE.setIfInBounds i true) (H.filter fun h => !reach ops h.1 ops.size i)
      (e.putO (opAt ops i).dst v) (a.put (opAt ops i).dst v) w' := by
  obtain ⟨hlt, hoff, hpre⟩ := (ready_iff hr.s1).1 hi
  have hs : i < listed.size := hr.s1 ▸ hlt
  have hs2 : i < listedE.size := hr.s2 ▸ hlt
  refine ⟨by simp [hr.s1], by simp [hr.s2], fun k h => ?_, fun k h x hx hb => ?_, fun k h x hx hb => ?_, fun k hkE hk => ?_, ?_, ?_, fun t ht => ?_⟩
  · rcases (on_set hs).1 h with rfl | h
    · exact (on_set hs2).2 (.inl rfl)
    · exact (on_set hs2).2 (.inr (hr.sub k h))
  · rcases (on_set hs).1 h with rfl | h
    · exact (on_set hs).2 (.inr (hpre x hx hb))
    · exact (on_set hs).2 (.inr (hr.dc1 k h x hx hb))
  · rcases (on_set hs2).1 h with rfl | h
    · exact (on_set hs2).2 (.inr (hr.sub _ (hpre x hx hb)))
    · exact (on_set hs2).2 (.inr (hr.dc2 k h x hx hb))
  · have hki : k ≠ i := fun h => hk ((on_set hs).2 (.inl h))
    have hkE' : On listedE k := ((on_set hs2).1 hkE).resolve_left hki
    have hk' : ¬ On listed k := fun h => hk ((on_set hs).2 (.inr h))
    have hkl : k < ops.size := hr.s2 ▸ on_lt hkE'
    obtain ⟨hq, u, e', φ, hm, hw, hiff, hlk, hdst⟩ := hr.held k hkE' hk'
    have hnr : reach ops k ops.size i = false := by
      cases hre : reach ops k ops.size i with
      | false => rfl
      | true => exact absurd (reach_on hr.dc1 _ _ hpre hre) hk'
    have hm' : (k, φ) ∈ H.filter fun h => !reach ops h.1 ops.size i := List.mem_filter.2 ⟨hm, by simp [hnr]⟩
    refine ⟨hq, u, e', φ, hm', hH φ (List.mem_map.2 ⟨_, hm', rfl⟩), hiff, fun t ht => ?_, fun d hd => ?_⟩
    · rw [hlk t ht]
      cases hdi : (opAt ops i).dst with
      | none => rfl
      | some d =>
        by_cases htd : t = d
        · subst htd
          rcases hok.c i k hlt hkl hq hqi t hdi ht with ⟨x, hx, hb, hxi⟩ | hre
          · exact absurd (hxi ▸ hr.dc2 k hkE' x hx hb) hE
          · rw [hnr] at hre; cases hre
        · simp [Env.putO, Env.put, htd]
    · rw [← hdst d hd]
      cases hdi : (opAt ops i).dst with
      | none => rfl
      | some d' =>
        have hne : d ≠ d' := fun h => by subst h; exact hok.a i k hlt hkl hq (Ne.symm hki) d hd hdi
        simp [Env.putO, Env.put, hne]
  · cases (opAt ops i).dst <;> simp [Act.put, hr.size]
  · cases (opAt ops i).dst <;> exact hr.defers
  · cases hdi : (opAt ops i).dst with
    | none =>
      refine hr.agr t fun k hkE hk => ?_
      by_cases hki : k = i
      · subst hki; rw [hdi]; simp
      · exact ht k ((on_set hs2).2 (.inr hkE)) fun h => hk (((on_set hs).1 h).resolve_left hki)
    | some d =>
      by_cases htd : t = d
      · subst htd
        have : t < a.tmps.size := hr.size ▸ hok.dst i hlt t hdi
        simp [Act.put, this, Env.putO, Env.put]
      · have hne : d ≠ t := fun h => htd h.symm
        have h1 : (a.put (some d) v).tmps.getD t undef = a.tmps.getD t undef := by simp [Act.put, Array.getElem?_setIfInBounds_ne hne]
        rw [h1]
        simp only [Env.putO, Env.put, htd, if_false]
        refine hr.agr t fun k hkE hk => ?_
        by_cases hki : k = i
        · subst hki; rw [hdi]; simpa using hne
        · exact ht k ((on_set hs2).2 (.inr hkE)) fun h => hk (((on_set hs).1 h).resolve_left hki)
/-- Where nothing may come up, all have come up. -/
theorem all_on (hok : DrawOk nt ops) (hs : listed.size = ops.size) (h : Region.ready .any ops listed = []) : ∀ n i, i < n → i < ops.size → On listed i := by
  intro n
  induction n with
  | zero => intro i hi; omega
  | succ n ih =>
    intro i hi hlt
    apply Classical.byContradiction
    intro hoff
    have : i ∈ Region.ready .any ops listed := (ready_iff hs).2 ⟨hlt, hoff, fun x hx hb => by
      have hx' := hok.lt i hlt x hx hb
      exact ih x.on (by omega) (by omega)⟩
    rw [h] at this
    cases this
theorem Rel.agrees (hr : Rel P nt D ops listed listedE H e a w) (hall : ∀ i, i < ops.size → On listed i) : Agr nt D e a :=
  ⟨hr.size, fun t => hr.agr t fun i hE hi => absurd (hall i (hr.s2 ▸ on_lt hE)) hi, hr.defers⟩
end
theorem evD_sound {P : Program} {C : FuncId → Bool} (hC : Bodies P C) {nt : Nat} {D : List Deferred} {ops : Array Oper} (hok : DrawOk nt ops)
    {Q : Exit → Env → World → Prop} : ∀ (fE fuel : Nat) (listed listedE : Array Bool) (H : List (Nat × (World → Prop))) (e : Env) (a : Act) (w : World) (U : List Nat),
      Rel P nt D ops listed listedE H e a w → (∀ i, i < ops.size → ¬ On listed i → i ∈ U) → U.length ≤ fuel →
      evD P C ops fE listedE H e w (Q .normal) (fun c => Q (.panic c)) → wpAny P .any ops (lift nt D Q) fuel listed a w := by
  intro fE
  induction fE with
  | zero => intro fuel listed listedE H e a w U _ _ _ h; exact h.elim
  | succ fE ihE =>
    intro fuel
    induction fuel with
    | zero =>
      intro listed listedE H e a w U hr hU hlen h
      have hall : ∀ i, i < ops.size → On listed i := fun i hi => Classical.byContradiction fun hoff => by
        have := hU i hi hoff
        cases U <;> simp at hlen this
      have hnone : Region.ready .any ops listed = [] := by
        cases hrd : Region.ready .any ops listed with
        | nil => rfl
        | cons x xs =>
          have : x ∈ Region.ready .any ops listed := by rw [hrd]; exact List.mem_cons_self
          obtain ⟨hlt, hoff, _⟩ := (ready_iff hr.s1).1 this
          exact absurd (hall x hlt) hoff
      have hnoneE : Region.ready .any ops listedE = [] := by
        cases hrd : Region.ready .any ops listedE with
        | nil => rfl
        | cons x xs =>
          have : x ∈ Region.ready .any ops listedE := by rw [hrd]; exact List.mem_cons_self
          obtain ⟨hlt, hoff, _⟩ := (ready_iff hr.s2).1 this
          exact absurd (hr.sub x (hall x hlt)) hoff
      simp only [evD, hnoneE, List.find?_nil] at h
      exact ⟨hnone, e, hr.agrees hall, h⟩
    | succ fuel ih =>
      intro listed listedE H e a w U hr hU hlen h
      unfold evD at h
      cases hf : (Region.ready .any ops listedE).find? (fun j => quiet (opAt ops j)) with
      | some j =>
        simp only [hf] at h
        have hj := List.mem_of_find?_eq_some hf
        have hq : quiet (opAt ops j) = true := by simpa using List.find?_some hf
        obtain ⟨v, hv, h⟩ := h
        exact ihE (fuel + 1) _ _ _ _ _ _ U (hr.ahead hok hj hq hv) hU hlen h
      | none =>
        have h0 := h
        simp only [hf] at h
        refine ⟨fun hnone => ?_, fun i hi => ?_⟩
        · have hall : ∀ i, i < ops.size → On listed i := fun i hi => all_on hok hr.s1 hnone (i + 1) i (by omega) hi
          have hnoneE : Region.ready .any ops listedE = [] := by
            cases hrd : Region.ready .any ops listedE with
            | nil => rfl
            | cons x xs =>
              have : x ∈ Region.ready .any ops listedE := by rw [hrd]; exact List.mem_cons_self
              obtain ⟨hlt, hoff, _⟩ := (ready_iff hr.s2).1 this
              exact absurd (hr.sub x (hall x hlt)) hoff
          simp only [hnoneE] at h
          exact ⟨e, hr.agrees hall, h⟩
        · obtain ⟨hlt, hoff, hpre⟩ := (ready_iff hr.s1).1 hi
          have hs : i < listed.size := hr.s1 ▸ hlt
          have hiU := hU i hlt hoff
          have hU' : ∀ k, k < ops.size → ¬ On (listed.setIfInBounds i true) k → k ∈ U.erase i := fun k hk hk' => by
            have hki : k ≠ i := fun h => hk' ((on_set hs).2 (.inl h))
            exact (List.mem_erase_of_ne hki).2 (hU k hk fun h => hk' ((on_set hs).2 (.inr h)))
          have hlen' : (U.erase i).length ≤ fuel := by
            rw [List.length_erase_of_mem hiU]; omega
          by_cases hE : On listedE i
          · obtain ⟨v, hwp, hr'⟩ := hr.take hok hi hE
            refine hwp _ _ (ih _ _ _ _ _ _ _ hr' hU' hlen' ?_)
            unfold evD
            simp only [hf]
            exact h
          · have hiE : i ∈ Region.ready .any ops listedE := (ready_iff hr.s2).2 ⟨hlt, hE, fun x hx hb => hr.sub _ (hpre x hx hb)⟩
            have hqi : quiet (opAt ops i) = false := by
              have := List.find?_eq_none.1 hf i hiE
              simpa using this
            cases hrs : Region.ready .any ops listedE with
            | nil => rw [hrs] at hiE; cases hiE
            | cons x xs =>
              simp only [hrs] at h
              have hstep := allE_spec h i (hrs ▸ hiE)
              refine stepE_sound hC (get_some hlt) (exec_same (hok.sel i hlt) (hr.looks hok hi))
                (fun j want d hgd hdj => hr.looks hok hi d (guard_looks hgd hdj)) (fun v w' hk => ?_) (fun c w' hp => ?_) hstep
              · obtain ⟨hx, hH⟩ := heldE_spec hk
                exact ihE fuel _ _ _ _ _ _ _ (hr.both hok hi hE hqi v hH) hU' hlen' hx
              · exact ⟨fun t => a.tmps.getD t undef, ⟨hr.size, fun t => rfl, hr.defers⟩, hp _ fun t ht => hr.agr t fun i hE _ => not_dst ht (hr.s2 ▸ on_lt hE) hE⟩
/-! ### A function's body -/
def drew (w : World) : World := { w with drawn := w.drawn + 1 }
def ev (P : Program) (C : FuncId → Bool) : Code → Env → World → (Exit → Env → World → Prop) → Prop
  | .skip, e, w, K => K .normal e w
  | .label _, e, w, K => K .normal e w
  | .region _ ops false, e, w, K => evOps P C ops.toList ops.toList e w (K .normal) (fun c => K (.panic c))
  | .region _ ops true, e, w, K => evD P C ops (ops.size + 1) (Array.replicate ops.size false) [] e (drew w) (K .normal) (fun c => K (.panic c))
  | .seq a b, e, w, K => ev P C a e w (thenK (fun e w => ev P C b e w K) K)
  | .cond c a b, e, w, K => condE (e.val c) (fun K => ev P C a e w K) (fun K => ev P C b e w K) K
  | .block id b, e, w, K => ev P C b e w (blockK id K)
  | .loop b, e, w, K => loopE (fun e w K => ev P C b e w K) e w K
  | .exit id, e, w, K => K (.exit id) e w
  | .goto l, e, w, K => K (.goto l) e w
  | .ret, e, w, K => K .ret e w
  | _, _, _, _ => False
def wfC (nt : Nat) : Code → Bool
  | .region _ ops false => dstsIn nt ops.toList
  | .region _ ops true => drawOk nt ops
  | .seq a b => wfC nt a && wfC nt b
  | .cond _ a b => wfC nt a && wfC nt b
  | .block _ b => wfC nt b
  | .loop b => wfC nt b
  | _ => true
theorem wp_loop_ev {P : Program} {nt : Nat} {D : List Deferred} {c : Code} {B : Env → World → (Exit → Env → World → Prop) → Prop}
    (hB : ∀ e a w Q, Agr nt D e a → B e w Q → c.wp P (lift nt D Q) a w)
    {e : Env} {a : Act} {w : World} {Q : Exit → Env → World → Prop} (hag : Agr nt D e a) (h : loopE B e w Q) : (Code.loop c).wp P (lift nt D Q) a w := by
  obtain ⟨I, ⟨n, hI⟩, hstep⟩ := h
  intro b k cs
  have key : ∀ n e a w, Agr nt D e a → I n e w →
      ∃ x a' w', lift nt D Q x a' w' ∧ Arrives P (lone (b.at a (.code c :: .inLoop c :: k)) cs w) b k cs x a' w' := by
    intro n
    induction n using Nat.strongRecOn with
    | _ n ih =>
      intro e a w hag hI
      obtain ⟨x, a₁, w₁, ⟨e₁, hag₁, hq⟩, harr⟩ := hB e a w _ hag (hstep n e w hI) b (.inLoop c :: k) cs
      cases x with
      | normal =>
        obtain ⟨m, hlt, hI₁⟩ := hq
        obtain ⟨x₂, a₂, w₂, hq₂, harr₂⟩ := ih m hlt e₁ a₁ w₁ hag₁ hI₁
        exact ⟨x₂, a₂, w₂, hq₂, .of_steps (Steps.trans harr (.one step_inLoop)) harr₂⟩
      | exit id => exact ⟨_, a₁, w₁, ⟨e₁, hag₁, hq⟩, .pass (x := .inLoop c) rfl (fun _ _ => .inl (by simp)) harr⟩
      | goto l => exact ⟨_, a₁, w₁, ⟨e₁, hag₁, hq⟩, .pass (x := .inLoop c) rfl (fun _ _ => .inl (by simp)) harr⟩
      | ret => exact ⟨_, a₁, w₁, ⟨e₁, hag₁, hq⟩, .pass (x := .inLoop c) rfl (fun _ _ => .inl (by simp)) harr⟩
      | panic ch => exact ⟨_, a₁, w₁, ⟨e₁, hag₁, hq⟩, .pass (x := .inLoop c) rfl (fun _ _ => .inl (by simp)) harr⟩
      | outgrown => exact ⟨_, a₁, w₁, ⟨e₁, hag₁, hq⟩, .pass (x := .inLoop c) rfl (fun _ _ => .inl (by simp)) harr⟩
  obtain ⟨x, a', w', hq, harr⟩ := key n e a w hag hI
  exact ⟨x, a', w', hq, .of_steps (.one step_loop) harr⟩
theorem ev_sound {P : Program} {C : FuncId → Bool} (hC : Bodies P C) (hm : P.follows .mixedOrders = true) {nt : Nat} {D : List Deferred} : ∀ (c : Code), wfC nt c = true →
    ∀ (e : Env) (a : Act) (w : World) (Q : Exit → Env → World → Prop), Agr nt D e a → ev P C c e w Q → c.wp P (lift nt D Q) a w := by
  intro c
  induction c with
  | skip => intro _ e a w Q hag h; exact wp_skip ⟨e, hag, by simpa [ev] using h⟩
  | label l => intro _ e a w Q hag h; exact wp_label ⟨e, hag, by simpa [ev] using h⟩
  | exit id => intro _ e a w Q hag h; exact wp_exit ⟨e, hag, by simpa [ev] using h⟩
  | goto l => intro _ e a w Q hag h; exact wp_goto ⟨e, hag, by simpa [ev] using h⟩
  | ret => intro _ e a w Q hag h; exact wp_ret ⟨e, hag, by simpa [ev] using h⟩
  | refuse s => intro _ e a w Q hag h; simp [ev] at h
  | scope b ih => intro _ e a w Q hag h; simp [ev] at h
  | rangeFunc f ps as b ih1 ih2 => intro _ e a w Q hag h; simp [ev] at h
  | region id ops draw =>
    intro hwf e a w Q hag h
    cases draw with
    | false =>
      simp only [ev] at h
      simp only [wfC] at hwf
      have := evOps_sound hC hwf ops.toList 0 rfl e a w hag h
      exact wp_region (by simpa [List.range_eq_range'] using this)
    | true =>
      simp only [ev] at h
      simp only [wfC] at hwf
      have hok := drawOk_spec hwf
      refine wp_region_any hm (evD_sound hC hok _ _ _ _ [] e a _ (List.range ops.size) ?_ (fun i hi _ => List.mem_range.2 hi) (by simp) h)
      have hoff : ∀ i, ¬ On (Array.replicate ops.size false) i := fun i hi => by
        unfold On at hi
        have := on_lt hi
        simp at this
        simp [this] at hi
      exact ⟨by simp, by simp, fun i h => h, fun i h => absurd h (hoff i), fun i h => absurd h (hoff i), fun i h => absurd h (hoff i),
        hag.size, hag.defers, fun t _ => hag.val t⟩
  | seq x y ihx ihy =>
    intro hwf e a w Q hag h
    simp only [wfC, Bool.and_eq_true] at hwf
    simp only [ev] at h
    refine wp_seq (wp_mono (ihx hwf.1 e a w _ hag h) fun x a' w' hq => ?_)
    obtain ⟨e', hag', hq⟩ := hq
    cases x with
    | normal => exact ihy hwf.2 e' a' w' Q hag' hq
    | exit id => exact ⟨e', hag', hq⟩
    | goto l => exact ⟨e', hag', hq⟩
    | ret => exact ⟨e', hag', hq⟩
    | panic ch => exact ⟨e', hag', hq⟩
    | outgrown => exact ⟨e', hag', hq⟩
  | cond c x y ihx ihy =>
    intro hwf e a w Q hag h
    simp only [wfC, Bool.and_eq_true] at hwf
    simp only [ev] at h
    obtain ⟨b, hb, ht, hf⟩ := h
    exact wp_cond_split (t := b) (by rw [hag.eval]; exact hb) (fun h => ihx hwf.1 e a w Q hag (ht h)) (fun h => ihy hwf.2 e a w Q hag (hf h))
  | block id b ih =>
    intro hwf e a w Q hag h
    simp only [wfC] at hwf
    simp only [ev] at h
    refine wp_block (wp_mono (ih hwf e a w _ hag h) fun x a' w' hq => ?_)
    obtain ⟨e', hag', hq⟩ := hq
    cases x with
    | exit i =>
      simp only [blockK] at hq
      simp only [Exit.inBlock]
      by_cases hi : i = id
      · rw [if_pos hi] at hq ⊢; exact ⟨e', hag', hq⟩
      · rw [if_neg hi] at hq ⊢; exact ⟨e', hag', hq⟩
    | normal => exact ⟨e', hag', hq⟩
    | goto l => exact ⟨e', hag', hq⟩
    | ret => exact ⟨e', hag', hq⟩
    | panic ch => exact ⟨e', hag', hq⟩
    | outgrown => exact ⟨e', hag', hq⟩
  | loop b ih =>
    intro hwf e a w Q hag h
    simp only [wfC] at hwf
    simp only [ev] at h
    exact wp_loop_ev (fun e a w Q hag h => ih hwf e a w Q hag h) hag h
def resVs (P : Program) : List ResultVar → Env → World → (List Value → Prop) → Prop
  | [], e, w, K => K []
  | .tmp t :: r, e, w, K => resVs P r e w fun vs => K (e t :: vs)
  | .cell a t :: r, e, w, K => ∃ v, pLoad P t (e a) w = some (v, w) ∧ resVs P r e w fun vs => K (v :: vs)
def tup : List Value → Value
  | [v] => v
  | vs => .tuple vs.toArray
def topK (P : Program) (rs : List ResultVar) (R : Ending → World → Prop) (x : Exit) (e : Env) (w : World) : Prop :=
  match x with
  | .normal => resVs P rs e w fun vs => R (.returned (tup vs)) w
  | .ret => resVs P rs e w fun vs => R (.returned (tup vs)) w
  | .panic c => R (.panicked c) w
  | _ => False
def argE (args : List Value) : Env := fun n => args.getD n undef
theorem resVs_sound {P : Program} {tmps : Array Value} {e : Env} (he : ∀ t, tmps.getD t undef = e t) {w : World} : ∀ (rs : List ResultVar) (K : List Value → Prop),
    resVs P rs e w K → ∃ vs, ((rs.mapM fun
      | .tmp t => pure (tmps.getD t undef)
      | .cell a t => do loadVar t (← asAddr (tmps.getD a undef)) : Sem (List Value))).run P w = .ok vs w ∧ K vs := by
  intro rs
  induction rs with
  | nil => intro K h; exact ⟨[], by simp, h⟩
  | cons r rs ih =>
    intro K h
    cases r with
    | tmp t =>
      obtain ⟨vs, hvs, hk⟩ := ih _ h
      refine ⟨e t :: vs, ?_, hk⟩
      rw [List.mapM_cons]
      simp only [Sem.run_bind, Sem.run_pure, Result.andThen_ok, he t]
      rw [hvs]
      rfl
    | cell a t =>
      obtain ⟨v, hv, h⟩ := h
      obtain ⟨vs, hvs, hk⟩ := ih _ h
      refine ⟨v :: vs, ?_, hk⟩
      rw [List.mapM_cons]
      have hl := runV_ok hv
      have : (do loadVar t (← asAddr (tmps.getD a undef)) : Sem Value).run P w = .ok v w := by
        rw [he]
        unfold Instr.loadAt at hl
        cases hp : e a with
        | pointer p =>
          cases p with
          | none => rw [hp] at hl; simp [Instr.sureAddr] at hl
          | some p => rw [hp] at hl; simpa [Instr.sureAddr, asAddr] using hl
        | _ => rw [hp] at hl; simp [Instr.sureAddr] at hl
      simp only [Sem.run_bind] at this ⊢
      rw [this]
      simp only [Result.andThen_ok]
      rw [hvs]
      rfl
theorem results_sound {P : Program} {fn : Func} {tmps : Array Value} {e : Env} (he : ∀ t, tmps.getD t undef = e t) {w : World} {rs : List ResultVar}
    (hrs : fn.results = rs.toArray) {R : Ending → World → Prop} (h : resVs P rs e w fun vs => R (.returned (tup vs)) w) :
    ∃ v, (results fn tmps).run P w = .ok v w ∧ R (.returned v) w := by
  obtain ⟨vs, hvs, hR⟩ := resVs_sound he rs _ h
  refine ⟨tup vs, ?_, hR⟩
  unfold results
  rw [hrs]
  simp only [Array.mapM_eq_mapM_toList, Sem.run_bind, Sem.run_map]
  erw [hvs]
  simp only [Result.andThen_ok, Sem.run_pure]
  congr 1
  match vs with
  | [] => rfl
  | [v] => rfl
  | v :: u :: r => simp [tup]
theorem calls_of_ev {P : Program} {C : FuncId → Bool} (hC : Bodies P C) (hm : P.follows .mixedOrders = true) {f : FuncId} {fn : Func} {c : Code} {nt : Nat}
    {rs : List ResultVar} (hf : P.funcs[f]? = some fn) (hb : fn.body = some c) (hn : fn.ntmps = nt) (hrs : fn.results = rs.toArray) (hwf : wfC nt c = true)
    {args : List Value} (hlen : args.length ≤ nt) {w : World} {R : Ending → World → Prop}
    (h : ev P C c (argE args) w (topK P rs R)) : Calls P f args.toArray w R := by
  refine calls_of_wp hf hb (wp_mono (ev_sound (D := []) hC hm c hwf (argE args) _ w (topK P rs R) ?_ h) ?_)
  · refine ⟨by simp [hn]; omega, fun t => ?_, rfl⟩
    simp only [argE]
    by_cases ht : t < args.length
    · simp [ht, Array.getElem?_append_left]
    · simp only [List.getD_eq_getElem?_getD, List.getElem?_eq_none (Nat.le_of_not_lt ht), Option.getD_none]
      rw [Array.getD_eq_getD_getElem?, Array.getElem?_append_right (by simpa using Nat.le_of_not_lt ht)]
      simp only [Array.getElem?_replicate]
      split <;> rfl
  · rintro x a w' ⟨e, hag, hq⟩
    cases x with
    | normal => exact ⟨hag.defers, results_sound hag.val hrs hq⟩
    | ret => exact ⟨hag.defers, results_sound hag.val hrs hq⟩
    | panic c => exact ⟨hag.defers, hq⟩
    | exit id => exact hq.elim
    | goto l => exact hq.elim
    | outgrown => exact hq.elim
abbrev KT := Exit → Env → World → Prop
def letK (K : KT) (X : KT → Prop) : Prop := X K
def drawE (X : (Env → World → Prop) → (List PanicEntry → Env → World → Prop) → Prop) (K : Env → World → Prop) (KP : List PanicEntry → Env → World → Prop) : Prop := X K KP
def qNil (v : Value) (w : World) : Option (Value × World) := match v with | .pointer (some a) => some (.pointer (some a), w) | _ => none
def qPick (c a b : Value) (w : World) : Option (Value × World) := match c with | .bool t => some (if t then a else b, w) | _ => none
def qGrd (c : Value) (want : Bool) (r : World → Option (Value × World)) (w : World) : Option (Value × World) :=
  match c with
  | .bool b => if b = want then r w else some (undef, w)
  | _ => some (undef, w)
theorem eq_mp {p q : Prop} (h : p = q) (hp : p) : q := h ▸ hp
def hasBody (fn : Func) : Bool := !fn.body.isNone && !(fn.name == "runtime.NumGoroutine")
def tableC (P : Program) (f : FuncId) : Bool := (P.funcs.toList.map hasBody).getD f false
theorem bodies_of (P : Program) : Bodies P (tableC P) := by
  intro f h
  unfold tableC at h
  rw [List.getD_eq_getElem?_getD, List.getElem?_map] at h
  have he : P.funcs.toList[f]? = P.funcs[f]? := by simp
  rw [he] at h
  cases hf : P.funcs[f]? with
  | none => simp [hf] at h
  | some fn =>
    rw [hf] at h
    simp only [Option.map_some, Option.getD_some, hasBody, Bool.and_eq_true, Bool.not_eq_true'] at h
    exact ⟨fn, rfl, h.1, h.2⟩
def bodyOf (fn : Func) : Code := match fn.body with | some c => c | none => .skip
end Go.Proofs.YtieejbkbdfccdaaGreat
