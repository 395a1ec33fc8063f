/- Calls that may panic; bits; interfaces; structs that are compared; strings. -/
import Derived.Test.YtieejbkbdfccdaaGreatPrims3
import Derived.Test.YtieejbkbdfccdaaGreatFloPrims
import Derived.Test.YtieejbkbdfccdaaGreatBaseD
import Derived.Laws.StructEq
import Derived.Laws.Concat
import Derived.Laws.Runes
import Derived.Laws.Build
import Derived.WalkSmall
import Derived.WideLaws
set_option linter.unusedVariables false
set_option linter.unusedSimpArgs false
namespace Go.Proofs.YtieejbkbdfccdaaGreat
open Go
/-! ### Calls that may panic -/
def Thr (P : Program) (f : FuncId) (args : Array Value) (w : World) (N : Value → World → Prop) (X : List PanicEntry → World → Prop) : Prop :=
  Calls P f args w fun e w' => match e with
    | .returned v => N v w'
    | .panicked c => X c w'
    | .outgrown => False
theorem Thr.call {P : Program} {f : FuncId} {args : Array Value} {w : World} {N : Value → World → Prop} {X : List PanicEntry → World → Prop} {K : Value → World → Prop} {KP : List PanicEntry → World → Prop}
    (h : Thr P f args w N X) (hk : ∀ v w', N v w' → K v w') (hp : ∀ c w', X c w' → KP c w') : callE P f args w K KP :=
  callE_of h (fun v w' h => hk v w' h) (fun c w' h => hp c w' h) (fun w' h => h)
theorem Thr.mono {P : Program} {f : FuncId} {args : Array Value} {w : World} {N N' : Value → World → Prop} {X X' : List PanicEntry → World → Prop} (h : Thr P f args w N X)
    (hn : ∀ v w', N v w' → N' v w') (hx : ∀ c w', X c w' → X' c w') : Thr P f args w N' X' :=
  Calls.mono h fun e w' he => by cases e with
    | returned v => exact hn _ _ he
    | panicked c => exact hx _ _ he
    | outgrown => exact he
theorem panicE_iface {P : Program} {t : TypeId} {v : Value} {w : World} {KP : List PanicEntry → World → Prop} : panicE P (.iface t v) w KP = KP [{ v := .iface t v, recovered := false }] w := by
  apply propext
  constructor
  · rintro ⟨u, w', h, hk⟩
    rw [run_panic_iface] at h
    simp only [Result.halt.injEq, Halt.panic.injEq] at h
    obtain ⟨rfl, rfl⟩ := h
    exact hk
  · intro h
    exact ⟨_, _, run_panic_iface t v w, h⟩
theorem leaveE_def {P : Program} {g : FuncId} {caps : List Value} {rs : List ResultVar} {R : Ending → World → Prop} {u : FrameMode} {e : Env} {w : World}
    (h : CallsD P g caps.toArray u w fun x u' w' => ∃ v, x = .returned v ∧ settle u' = .returning ∧ resVs P rs e w' fun vs => R (.returned (tup vs)) w') : leaveE P g caps rs R u e w :=
  CallsD.mono h fun x u' w' ⟨v, hx, hs, hr⟩ => by subst hx; simp only [hs]; exact hr
section
variable {P : Program} {t : TypeId} {w : World} {lit : Bool} {a b : Nat}
/-! ### Bits -/
theorem wrap8 {n : Nat} (h : n < 256) : IntKind.u8.wrap (n : Int) = n := by
  unfold IntKind.wrap
  simp only [IntKind.bits, IntKind.signed, Bool.false_and, Bool.false_eq_true, if_false]
  omega
theorem wrap8_mod (n : Nat) : IntKind.u8.wrap (n : Int) = ((UInt8.ofNat n).toNat : Int) := by
  unfold IntKind.wrap
  simp only [IntKind.bits, IntKind.signed, Bool.false_and, Bool.false_eq_true, if_false, UInt8.toNat_ofNat']
  omega
theorem bits8_and (x y : Int) : (Op.intBits .and .u8 x y : Sem Value) = pure (.int .u8 (IntKind.u8.wrap (((BitVec.ofInt 8 x &&& BitVec.ofInt 8 y).toNat : Nat) : Int))) := rfl
theorem bits8_or (x y : Int) : (Op.intBits .or .u8 x y : Sem Value) = pure (.int .u8 (IntKind.u8.wrap (((BitVec.ofInt 8 x ||| BitVec.ofInt 8 y).toNat : Nat) : Int))) := rfl
theorem bv_nat8 (n : Nat) : BitVec.ofInt 8 (n : Int) = BitVec.ofNat 8 n := by
  apply BitVec.eq_of_toNat_eq
  simp
theorem pAnd8 {x y : UInt8} : pBin P .and t lit (bv x) (bv y) w = some (bv (x &&& y), w) := by
  refine pBin_bits ?_ (.inl rfl)
  have hx := x.toNat_lt
  have hy := y.toNat_lt
  have h1 : x.toNat % 2 ^ 8 = x.toNat := Nat.mod_eq_of_lt hx
  have h2 : y.toNat % 2 ^ 8 = y.toNat := Nat.mod_eq_of_lt hy
  rw [bits8_and, bv_nat8, bv_nat8, BitVec.toNat_and, BitVec.toNat_ofNat, BitVec.toNat_ofNat, h1, h2, ← UInt8.toNat_and, wrap8 (x &&& y).toNat_lt]
  rfl
theorem pOr8 {x y : UInt8} : pBin P .or t lit (bv x) (bv y) w = some (bv (x ||| y), w) := by
  refine pBin_bits ?_ (.inr (.inl rfl))
  have hx := x.toNat_lt
  have hy := y.toNat_lt
  have h1 : x.toNat % 2 ^ 8 = x.toNat := Nat.mod_eq_of_lt hx
  have h2 : y.toNat % 2 ^ 8 = y.toNat := Nat.mod_eq_of_lt hy
  rw [bits8_or, bv_nat8, bv_nat8, BitVec.toNat_or, BitVec.toNat_ofNat, BitVec.toNat_ofNat, h1, h2, ← UInt8.toNat_or, wrap8 (x ||| y).toNat_lt]
  rfl
theorem pOrU (ha : a < 2 * H63) (hb : b < 2 * H63) : pBin P .or t lit (u64 a) (u64 b) w = some (u64 (a ||| b), w) := by
  refine pBin_bits ?_ (.inr (.inl rfl))
  have h1 : a % 2 ^ 64 = a := Nat.mod_eq_of_lt (by unfold H63 at ha; omega)
  have h2 : b % 2 ^ 64 = b := Nat.mod_eq_of_lt (by unfold H63 at hb; omega)
  have h3 : a ||| b < 2 * H63 := Nat.or_lt_two_pow (n := 64) (by unfold H63 at ha; omega) (by unfold H63 at hb; omega)
  rw [bits_or, bv_nat, bv_nat, BitVec.toNat_or, BitVec.toNat_ofNat, BitVec.toNat_ofNat, h1, h2, wrapu h3]
  rfl
theorem pAndU (ha : a < 2 * H63) (hb : b < 2 * H63) : pBin P .and t lit (u64 a) (u64 b) w = some (u64 (a &&& b), w) := by
  refine pBin_bits ?_ (.inl rfl)
  have h1 : a % 2 ^ 64 = a := Nat.mod_eq_of_lt (by unfold H63 at ha; omega)
  have h2 : b % 2 ^ 64 = b := Nat.mod_eq_of_lt (by unfold H63 at hb; omega)
  have h3 : a &&& b < 2 * H63 := Nat.lt_of_le_of_lt Nat.and_le_left ha
  rw [bits_and, bv_nat, bv_nat, BitVec.toNat_and, BitVec.toNat_ofNat, BitVec.toNat_ofNat, h1, h2, wrapu h3]
  rfl
theorem pShrU {k : IntKind} {y : Int} (h0 : 0 ≤ y) (h1 : y < 64) : pBin P .shr t lit (u64 a) (.int k y) w = some (u64 (a / 2 ^ y.toNat), w) := by
  have e : min y.toNat IntKind.u64.bits = y.toNat := by simp only [IntKind.bits]; omega
  rw [pBin_shr h0, e]
  congr 3
  rw [Int.fdiv_eq_ediv_of_nonneg _ (by exact Int.le_of_lt (Int.pow_pos (by omega)))]
  push_cast
  rfl
theorem pShlU {k : IntKind} {y : Int} (h0 : 0 ≤ y) (h1 : y < 64) (h : a * 2 ^ y.toNat < 2 * H63) : pBin P .shl t lit (u64 a) (.int k y) w = some (u64 (a * 2 ^ y.toNat), w) := by
  have e : min y.toNat IntKind.u64.bits = y.toNat := by simp only [IntKind.bits]; omega
  rw [pBin_shl h0, e]
  congr 3
  have : (a : Int) * 2 ^ y.toNat = ((a * 2 ^ y.toNat : Nat) : Int) := by push_cast; rfl
  rw [this]
  exact wrapu h
/-! ### Interfaces -/
theorem pIface_eq {v : Value} (h : P.concrete t = true) : pIface P t v w = some (.iface t v, w) := by
  simp only [pIface, runV, run_makeInterface w t v h]
theorem pAssert_ok {x : TypeId} {v : Value} {d : TypeDesc} (hu : P.underlying t = some d) (hd : P.concrete t = true) : pAssert P (.iface t v) x t true w = some (.tuple #[v, .bool true], w) := by
  unfold Program.concrete at hd
  simp only [hu] at hd
  simp only [pAssert, runV, Instr.typeAssert, Sem.run_bind, run_underlying hu, Result.andThen_ok]
  cases d <;> first | (simp at hd; done) | simp
theorem eqNilIface {v : Value} {u : TypeId} (hu : P.underlying t = some (.interface (P.methodsAt t))) : pBin P .eql t lit (.iface u v) .nilIface w = some (.bool false, w) := by
  have hg : ∀ o : Operand, (eqGuard .eql t o (.tmp 0) (.iface u v) .nilIface).run P w = .ok () w := fun o => by simp [eqGuard]
  simp only [pBin, runV, Sem.run_bind, hg, Result.andThen_ok, run_eql_held_nil w t u v hu]
theorem eqNilNil (hu : P.underlying t = some (.interface (P.methodsAt t))) : pBin P .eql t true .nilIface .nilIface w = some (.bool true, w) := by
  have hg : (eqGuard .eql t (flagOp true) (.tmp 0) .nilIface .nilIface).run P w = .ok () w := by simp [eqGuard, flagOp]
  simp only [pBin, runV, Sem.run_bind, hg, Result.andThen_ok, run_eql_nil_nil w t hu]
/-! ### Structs of plain fields that are compared -/
/-! ### Strings -/
theorem strB_size (l : List UInt8) : (⟨l.toArray⟩ : ByteArray).size = l.length := by simp [ByteArray.size]
theorem len_strB {ty : TypeId} {l : List UInt8} (hu : P.underlying t = some .string) : pBuiltin P .len #[t] ty [strB l] w = some (i64 l.length, w) := by
  unfold strB
  rw [len_string hu, strB_size]
theorem eq_strB {l m : List UInt8} : pBin P .eql t lit (strB l) (strB m) w = some (.bool (decide (l = m)), w) := by
  unfold strB
  rw [eqS, str_eq]
theorem ne_strB {l m : List UInt8} : pBin P .neq t lit (strB l) (strB m) w = some (.bool (decide (l ≠ m)), w) := by
  unfold strB
  rw [neS]
  simp only [bne, str_eq]
  simp
theorem lt_strB {l m : List UInt8} : pBin P .lss t lit (strB l) (strB m) w = some (.bool (Op.bytesLess l m), w) := by
  simp only [pBin, runV, strB, eqGuard_at_string, Sem.run_bind, Sem.run_pure, Result.andThen_ok]
  simp only [binOp, Op.stringOp, ByteArray.toList_eq, Sem.run_pure]
theorem ix_strB {l : List UInt8} {k : IntKind} {j : Nat} (hu : P.underlying t = some .string) (h : j < l.length) : pIndex P t (strB l) (.int k j) w = some (bv (gb l j), w) := by
  have hj : (j : Int) < (⟨l.toArray⟩ : ByteArray).size := by rw [strB_size]; omega
  simp only [pIndex, runV, strB, run_index_string w t _ k j hu]
  rw [dif_pos ⟨by omega, hj⟩]
  simp [ByteArray.getElem_eq_getElem_data, gb, h]
theorem str_cells (l : List UInt8) : ((⟨l.toArray⟩ : ByteArray).extract 0 l.length).data.map (fun b => Value.int .u8 (b.toNat : Int)) = (bs l).toArray := by
  apply Array.ext'
  have : ((⟨l.toArray⟩ : ByteArray).extract 0 l.length).data.toList = l := by
    simp [ByteArray.data_extract]
  rw [Array.toList_map, this]
  rfl
theorem first_str (l : List UInt8) (w : World) : (Builtin.firstCells 1 l.length (.string ⟨l.toArray⟩)).run P w = .ok (bs l).toArray w := by
  simp only [Builtin.firstCells, str_cells, Sem.run_pure]
theorem append_str {u ty e : TypeId} (base : Nat) (hs : sliceE P t = some e) (hu : P.underlying u = some .string) (hz : hasZero P e = true) (hsz : P.cellsOf e = 1) (hzl : (zeroL P e).length = 1)
    {v : Value} {n : Nat} {xs : List Value} (hown : w.ownsRow base e 1 v n xs) (hbase : base ≤ sz w) {l : List UInt8}
    (h63 : n + l.length ≤ maxLen) (hbytes : (n + l.length) * P.bytesOf e ≤ 140737488355328) :
    ∃ v' w', pBuiltin P .append #[t, u] ty [v, strB l] w = some (v', w') ∧ w'.ownsRow base e 1 v' (n + l.length) (xs ++ bs l) ∧ w.grownBy w' v.ownBlock ∧
      (v'.ownBlock = v.ownBlock ∨ v'.ownBlock = some (sz w)) := by
  have ht := sliceE_und hs
  unfold hasZero at hz
  obtain ⟨z, hz⟩ := Option.isSome_iff_exists.1 hz
  cases hi : P.info? e with
  | none => simp [hi] at hz
  | some i =>
    simp only [hi, Option.bind_some] at hz
    have hzs : z.cells.size = 1 := by simpa [zeroL, hi, hz] using hzl
    have his : i.size = 1 := by simpa [Program.cellsOf, hi] using hsz
    have hib : i.bytes = P.bytesOf e := by simp [Program.bytesOf, hi]
    rw [← hib] at hbytes
    have hsmall : n + l.length ≤ 9223372036854775807 := by simp only [maxLen] at h63; omega
    have hlen : (xs ++ bs l).length = (n + l.length) * 1 := by rw [List.length_append, hown.1, bs_length, Nat.add_mul, Nat.mul_one l.length]
    have h1 : ∀ u ∈ bs l, u.oneCell' = true := bs_one
    have hso : (sizeOf e).run P w = .ok 1 w := by simp [sizeOf, typeInfo, hi, his]
    have grown : ∀ (old : Nat), old < n + l.length → ∀ (row : Option Nat),
        (w.drew.alloc (.cells (xs.toArray ++ (bs l).toArray ++ Builtin.zeroCells z.cells (grownCap w (n + l.length) old e - (n + l.length))) e)).ownsRow base e 1
          (.slice (some ⟨w.heap.size, 0, none⟩) (n + l.length) (grownCap w (n + l.length) old e)) (n + l.length) (xs ++ bs l) ∧
        w.grownBy (w.drew.alloc (.cells (xs.toArray ++ (bs l).toArray ++ Builtin.zeroCells z.cells (grownCap w (n + l.length) old e - (n + l.length))) e)) row := by
      intro old ho row
      have hge := grownCap_ge w (n + l.length) old e
      have hcm : grownCap w (n + l.length) old e ≤ maxLen := grownCap_le_maxLen w (n + l.length) old e h63
      refine ⟨⟨hlen, .inr ⟨w.heap.size, _, _, rfl, hbase, heap_alloc_new w.drew _, hge, hcm, ?_, ?_⟩⟩, ⟨rfl, rfl, rfl, by simp, fun k hk _ => heap_alloc_old w.drew _ hk⟩⟩
      · simp only [Array.size_append, List.size_toArray, size_zeroCells, hzs, hown.1, bs_length]
        omega
      · simp only [Array.toList_append, List.append_assoc]
        rw [← List.append_assoc, ← hlen]
        exact List.take_left
    rcases hown.2 with ⟨rfl, rfl⟩ | ⟨g, cap, cur, rfl, hbg, hg, hnc, hcm, hcs, htake⟩
    · have hx : xs = [] := List.eq_nil_of_length_eq_zero (by simpa using hown.1)
      subst hx
      by_cases hm : l.length = 0
      · have hn : l = [] := List.eq_nil_of_length_eq_zero hm
        subst hn
        refine ⟨.slice none 0 0, w, ?_, World.ownsRow_nil w base e 1, ⟨rfl, rfl, rfl, Nat.le_refl _, fun _ _ _ => rfl⟩, .inl rfl⟩
        simp [pBuiltin, runV, strB, Builtin.append_, run_underlying ht, run_underlying hu, sizeOf, typeInfo, hi, Builtin.lenOf, Builtin.firstCells, ByteArray.size]
      · have hgr := grown 0 (by omega) (Value.ownBlock (.slice none 0 0))
        simp only [Nat.zero_add, List.nil_append, Array.empty_append] at hgr ⊢
        refine ⟨_, _, ?_, hgr.1, hgr.2, .inr rfl⟩
        have h63' : ¬ (9223372036854775807 < (l.length : Int)) := by omega
        have h48' : ¬ (281474976710656 < Builtin.nextslicecap l.length 0 * i.bytes) := by
          rw [nextslicecap_zero (by omega)]; have hb := hbytes; simp only [Nat.zero_add] at hb; omega
        simp [pBuiltin, runV, strB, Builtin.append_, run_underlying ht, run_underlying hu, sizeOf, typeInfo, zeroValue, hi, hz, his, Builtin.lenOf, strB_size, hm, h63', h48', Question.forced, first_str, run_firstCells_none,
          newRow, grownCap]
    · by_cases hroom : n + l.length ≤ cap
      · have hfit : n * 1 + (bs l).length ≤ cur.size := by rw [hcs, bs_length]; omega
        have hst := run_storeCells_at P g (n * 1) e (bs l) 0 cur w hg (by simpa using hfit) h1
        simp only [Nat.add_zero] at hst
        refine ⟨.slice (some ⟨g, 0, none⟩) (n + l.length) cap, w.setRow g (cur.toList.take (n * 1) ++ bs l ++ cur.toList.drop (n * 1 + (bs l).length)).toArray, ?_,
          ⟨hlen, .inr ⟨g, cap, _, rfl, hbg, setRow_heap w g cur _ e _ hg, hroom, hcm, ?_, ?_⟩⟩, ⟨rfl, rfl, rfl, by simp, fun k _ hk => setRow_other w g k _ (fun e => hk (by simp [Value.ownBlock, e]))⟩, .inl rfl⟩
        · simp [pBuiltin, runV, strB, Builtin.append_, run_underlying ht, run_underlying hu, sizeOf, typeInfo, hi, his, Builtin.lenOf, strB_size, hroom, first_str, Addr.add_lit]
          have hst' := hst
          simp only [Nat.mul_one] at hst'
          simp [hst']
        · have hbl := bs_length l
          simp only [List.size_toArray, List.length_append, List.length_take, List.length_drop, Array.length_toList]
          omega
        · rw [htake, ← hlen]
          exact List.take_left
      · have hgr := grown cap (by omega) (Value.ownBlock (.slice (some ⟨g, 0, none⟩) n cap))
        refine ⟨_, _, ?_, hgr.1, hgr.2, .inr rfl⟩
        have hn : ¬ (n + l.length ≤ cap) := by omega
        have h63' : ¬ (9223372036854775807 < ((n : Int) + (l.length : Int))) := by omega
        have hfit := growslice_fits (need := n + l.length) (old := cap) (bytes := i.bytes) (by omega) hbytes
        have h48' : ¬ (281474976710656 < Builtin.nextslicecap (n + l.length) cap * i.bytes) := by omega
        have holds : ∀ j u, xs[j]? = some u → w.cell? ((⟨g, 0, none⟩ : Addr).add j) = some u := hown.cells (g := g) rfl
        have hfo := run_firstCells_some (P := P) w.drew 1 n ⟨g, 0, none⟩ n cap xs hown.1 (by simpa using holds)
        simp [pBuiltin, runV, strB, Builtin.append_, run_underlying ht, run_underlying hu, sizeOf, typeInfo, zeroValue, hi, hz, his, Builtin.lenOf, strB_size, hn, h63', h48', Question.forced, hfo,
          first_str, newRow, grownCap]
        congr 2
        apply Array.ext'
        simp [List.append_assoc]
end
end Go.Proofs.YtieejbkbdfccdaaGreat
