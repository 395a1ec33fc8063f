/- Facts on the program's types, printed by types.py. -/
import Derived.Test.YtieejbkbdfccdaaDoorTypes
import Derived.Test.YtieejbkbdfccdaaDoorPrims3
import Derived.Test.YtieejbkbdfccdaaDoorBase
set_option linter.unusedVariables false
namespace Go.Proofs.YtieejbkbdfccdaaDoor
open Go

section
variable {w : World} {b i o n c : Nat} {k : IntKind} {x j : Int} {v : Value} {a : Array Value} {lo hi : Option Value}

@[simp] theorem tyOk49 : tyOk P 49 = true := by kernel_rfl
@[simp] theorem isAggB49 : isAggB P 49 = true := by kernel_rfl
@[simp] theorem cellsOf49 : P.cellsOf 49 = 10 := by kernel_rfl
@[simp] theorem bytesOf49 : P.bytesOf 49 = 104 := by kernel_rfl
@[simp] theorem hasZero49 : hasZero P 49 = true := by kernel_rfl
@[simp] theorem zeroL49 : zeroL P 49 = [(Value.int IntKind.i64 0), (Value.int IntKind.i64 0), (Value.int IntKind.i64 0), (Value.int IntKind.i64 0), (Value.int IntKind.i64 0), (Value.int IntKind.i64 0), (Value.float FloatKind.f64 0), (Value.int IntKind.i64 0), (Value.string ByteArray.empty), (Value.slice none 0 0)] := by kernel_rfl
@[simp] theorem eqg49 : P.eqGuardType P.depth 49 = false := by kernel_rfl
@[simp] theorem field49n0 : fieldB P 49 0 = some (0, 47) := by kernel_rfl
@[simp] theorem field49n1 : fieldB P 49 1 = some (1, 2) := by kernel_rfl
@[simp] theorem field49n2 : fieldB P 49 2 = some (2, 25) := by kernel_rfl
@[simp] theorem tyOk51 : tyOk P 51 = true := by kernel_rfl
@[simp] theorem isAggB51 : isAggB P 51 = false := by kernel_rfl
@[simp] theorem cellsOf51 : P.cellsOf 51 = 1 := by kernel_rfl
@[simp] theorem bytesOf51 : P.bytesOf 51 = 24 := by kernel_rfl
@[simp] theorem hasZero51 : hasZero P 51 = true := by kernel_rfl
@[simp] theorem zeroL51 : zeroL P 51 = [(Value.slice none 0 0)] := by kernel_rfl
@[simp] theorem sliceE51 : sliceE P 51 = some 60 := by kernel_rfl
@[simp] theorem tyOk53 : tyOk P 53 = true := by kernel_rfl
@[simp] theorem isAggB53 : isAggB P 53 = false := by kernel_rfl
@[simp] theorem cellsOf53 : P.cellsOf 53 = 1 := by kernel_rfl
@[simp] theorem bytesOf53 : P.bytesOf 53 = 8 := by kernel_rfl
@[simp] theorem hasZero53 : hasZero P 53 = true := by kernel_rfl
@[simp] theorem zeroL53 : zeroL P 53 = [(Value.pointer none)] := by kernel_rfl
@[simp] theorem und53 : P.underlying 53 = some (.pointer 86) := by kernel_rfl
@[simp] theorem tyOk56 : tyOk P 56 = true := by kernel_rfl
@[simp] theorem isAggB56 : isAggB P 56 = false := by kernel_rfl
@[simp] theorem cellsOf56 : P.cellsOf 56 = 1 := by kernel_rfl
@[simp] theorem bytesOf56 : P.bytesOf 56 = 24 := by kernel_rfl
@[simp] theorem hasZero56 : hasZero P 56 = true := by kernel_rfl
@[simp] theorem zeroL56 : zeroL P 56 = [(Value.slice none 0 0)] := by kernel_rfl
@[simp] theorem sliceE56 : sliceE P 56 = some 25 := by kernel_rfl
@[simp] theorem tyOk59 : tyOk P 59 = true := by kernel_rfl
@[simp] theorem isAggB59 : isAggB P 59 = true := by kernel_rfl
@[simp] theorem cellsOf59 : P.cellsOf 59 = 15 := by kernel_rfl
@[simp] theorem bytesOf59 : P.bytesOf 59 = 160 := by kernel_rfl
@[simp] theorem hasZero59 : hasZero P 59 = true := by kernel_rfl
@[simp] theorem zeroL59 : zeroL P 59 = [(Value.int IntKind.i64 0), (Value.int IntKind.i64 0), (Value.string ByteArray.empty), (Value.int IntKind.i64 0), (Value.float FloatKind.f64 0), (Value.string ByteArray.empty), (Value.int IntKind.i64 0), (Value.int IntKind.i64 0), (Value.int IntKind.i64 0), (Value.int IntKind.i64 0), (Value.float FloatKind.f64 0), (Value.int IntKind.i64 0), (Value.string ByteArray.empty), (Value.slice none 0 0)] ++ List.replicate 1 (Value.bool false) := by kernel_rfl
@[simp] theorem eqg59 : P.eqGuardType P.depth 59 = false := by kernel_rfl
@[simp] theorem field59n0 : fieldB P 59 0 = some (0, 3) := by kernel_rfl
@[simp] theorem field59n1 : fieldB P 59 1 = some (1, 27) := by kernel_rfl
@[simp] theorem tyOk60 : tyOk P 60 = true := by kernel_rfl
@[simp] theorem isAggB60 : isAggB P 60 = true := by kernel_rfl
@[simp] theorem cellsOf60 : P.cellsOf 60 = 15 := by kernel_rfl
@[simp] theorem bytesOf60 : P.bytesOf 60 = 160 := by kernel_rfl
@[simp] theorem hasZero60 : hasZero P 60 = true := by kernel_rfl
@[simp] theorem zeroL60 : zeroL P 60 = [(Value.int IntKind.i64 0), (Value.int IntKind.i64 0), (Value.string ByteArray.empty), (Value.int IntKind.i64 0), (Value.float FloatKind.f64 0), (Value.string ByteArray.empty), (Value.int IntKind.i64 0), (Value.int IntKind.i64 0), (Value.int IntKind.i64 0), (Value.int IntKind.i64 0), (Value.float FloatKind.f64 0), (Value.int IntKind.i64 0), (Value.string ByteArray.empty), (Value.slice none 0 0)] ++ List.replicate 1 (Value.bool false) := by kernel_rfl
@[simp] theorem eqg60 : P.eqGuardType P.depth 60 = false := by kernel_rfl
@[simp] theorem field60n0 : fieldB P 60 0 = some (0, 3) := by kernel_rfl
@[simp] theorem field60n1 : fieldB P 60 1 = some (1, 27) := by kernel_rfl
@[simp] theorem tyOk84 : tyOk P 84 = true := by kernel_rfl
@[simp] theorem isAggB84 : isAggB P 84 = false := by kernel_rfl
@[simp] theorem cellsOf84 : P.cellsOf 84 = 1 := by kernel_rfl
@[simp] theorem bytesOf84 : P.bytesOf 84 = 24 := by kernel_rfl
@[simp] theorem hasZero84 : hasZero P 84 = true := by kernel_rfl
@[simp] theorem zeroL84 : zeroL P 84 = [(Value.slice none 0 0)] := by kernel_rfl
@[simp] theorem sliceE84 : sliceE P 84 = some 88 := by kernel_rfl
@[simp] theorem tyOk86 : tyOk P 86 = true := by kernel_rfl
@[simp] theorem isAggB86 : isAggB P 86 = true := by kernel_rfl
@[simp] theorem cellsOf86 : P.cellsOf 86 = 9 := by kernel_rfl
@[simp] theorem bytesOf86 : P.bytesOf 86 = 112 := by kernel_rfl
@[simp] theorem hasZero86 : hasZero P 86 = true := by kernel_rfl
@[simp] theorem zeroL86 : zeroL P 86 = [(Value.int IntKind.i64 0), (Value.int IntKind.i64 0), (Value.int IntKind.i64 0), (Value.int IntKind.i64 0), (Value.float FloatKind.f64 0), (Value.int IntKind.i64 0), (Value.string ByteArray.empty), (Value.slice none 0 0), (Value.slice none 0 0)] := by kernel_rfl
@[simp] theorem eqg86 : P.eqGuardType P.depth 86 = false := by kernel_rfl
@[simp] theorem field86n0 : fieldB P 86 0 = some (0, 25) := by kernel_rfl
@[simp] theorem field86n1 : fieldB P 86 1 = some (8, 84) := by kernel_rfl
@[simp] theorem tyOk88 : tyOk P 88 = true := by kernel_rfl
@[simp] theorem isAggB88 : isAggB P 88 = true := by kernel_rfl
@[simp] theorem cellsOf88 : P.cellsOf 88 = 2 := by kernel_rfl
@[simp] theorem bytesOf88 : P.bytesOf 88 = 16 := by kernel_rfl
@[simp] theorem hasZero88 : hasZero P 88 = true := by kernel_rfl
@[simp] theorem zeroL88 : zeroL P 88 = [(Value.int IntKind.u64 0), (Value.int IntKind.u64 0)] := by kernel_rfl
@[simp] theorem eqg88 : P.eqGuardType P.depth 88 = false := by kernel_rfl
@[simp] theorem field88n0 : fieldB P 88 0 = some (0, 58) := by kernel_rfl
@[simp] theorem field88n1 : fieldB P 88 1 = some (1, 58) := by kernel_rfl
@[simp] theorem al49 : pAlloc P 49 w = some (pt (sz w) 0, nw w ([(Value.int IntKind.i64 0), (Value.int IntKind.i64 0), (Value.int IntKind.i64 0), (Value.int IntKind.i64 0), (Value.int IntKind.i64 0), (Value.int IntKind.i64 0), (Value.float FloatKind.f64 0), (Value.int IntKind.i64 0), (Value.string ByteArray.empty), (Value.slice none 0 0)]) 49) := by rw [pAlloc_eq hasZero49, zeroL49]
@[simp] theorem ld49 (h : i + 10 ≤ (mm w b).length) : pLoad P 49 (pt b i) w = some (.agg (((mm w b).drop i).take 10).toArray, w) := by
  have := pLoad_agg (w := w) (b := b) (i := i) tyOk49 isAggB49 (by rw [cellsOf49]; exact h); rwa [cellsOf49] at this
@[simp] theorem st49 (hs : a.size = 10) (hv : ∀ v ∈ a.toList, v.oneCell' = true) (hf : fz w b = false) (hi : i + 10 ≤ (mm w b).length) : pStore P 49 (pt b i) (.agg a) w = some (wr w b (splice (mm w b) i a.toList)) :=
  pStore_agg tyOk49 (by rw [cellsOf49, hs]) hv hf (by rw [hs]; exact hi)
@[simp] theorem fa49n0 : pFieldAddr P 49 (pt b i) 0 w = some (pt b (i + 0), w) := pFieldAddr_eq field49n0 tyOk47 (by rw [cellsOf47]; rfl)
@[simp] theorem fi49n0 (h : 0 < a.size) : pField P 49 (.agg a) 0 w = some (gt a.toList 0, w) := pField_scal field49n0 tyOk47 isAggB47 h
@[simp] theorem fa49n1 : pFieldAddr P 49 (pt b i) 1 w = some (pt b (i + 1), w) := pFieldAddr_eq field49n1 tyOk2 (by rw [cellsOf2]; rfl)
@[simp] theorem fi49n1 (h : 1 < a.size) : pField P 49 (.agg a) 1 w = some (gt a.toList 1, w) := pField_scal field49n1 tyOk2 isAggB2 h
@[simp] theorem fa49n2 : pFieldAddr P 49 (pt b i) 2 w = some (pt b (i + 2), w) := pFieldAddr_eq field49n2 tyOk25 (by rw [cellsOf25]; rfl)
@[simp] theorem fi49n2 : pField P 49 (.agg a) 2 w = some (.agg ((a.toList.drop 2).take 8).toArray, w) := by
  have := pField_agg (w := w) (x := a) field49n2 tyOk25 isAggB25; rwa [cellsOf25] at this
@[simp] theorem al51 : pAlloc P 51 w = some (pt (sz w) 0, nw w ([(Value.slice none 0 0)]) 51) := by rw [pAlloc_eq hasZero51, zeroL51]
@[simp] theorem ld51 (h : i < (mm w b).length) : pLoad P 51 (pt b i) w = some (gt (mm w b) i, w) := pLoad_scal tyOk51 isAggB51 h
@[simp] theorem st51 (hv : v.oneCell' = true) (hf : fz w b = false) (hi : i < (mm w b).length) : pStore P 51 (pt b i) v w = some (wr w b ((mm w b).set i v)) := pStore_one tyOk51 cellsOf51 hv hf hi
@[simp] theorem ia51 (h0 : 0 ≤ j) (h1 : j < n) : pIndexAddr P 51 (sl b o n c) (.int k j) w = some (pt b (o + j.toNat * 15), w) := by
  have := pIndexAddr_slice (w := w) (b := b) (o := o) (c := c) (k := k) sliceE51 tyOk60 h0 h1; rwa [cellsOf60] at this
@[simp] theorem len51 {ty : TypeId} {a : Option Addr} : pBuiltin P .len #[51] ty [.slice a n c] w = some (i64 n, w) := len_slice sliceE51
@[simp] theorem slL51 (h0 : 0 ≤ x) (h1 : x ≤ (n : Int)) (hnc : n ≤ c) : pSlice P 51 (sl b o n c) (some (.int k x)) none none w = some (.slice (some ⟨b, if c = x.toNat then o else o + x.toNat * 15, none⟩) (n - x.toNat) (c - x.toNat), w) := by
  have := pSlice_slice (P := P) (t := 51) (w := w) (b := b) (o := o) (lo := (some (.int k x))) (hi := none) sliceE51 tyOk60 rfl rfl h0 h1 (by simp [bHi]; omega) hnc; simpa [bLo, bHi] using this
@[simp] theorem slH51 {k' : IntKind} {y : Int} (h0 : 0 ≤ y) (h1 : y ≤ (c : Int)) (hnc : n ≤ c) : pSlice P 51 (sl b o n c) none (some (.int k' y)) none w = some (.slice (some ⟨b, o, none⟩) (y.toNat) (c), w) := by
  have := pSlice_slice (P := P) (t := 51) (w := w) (b := b) (o := o) (lo := none) (hi := (some (.int k' y))) sliceE51 tyOk60 rfl rfl (Int.le_refl 0) h0 h1 hnc; simpa [bLo, bHi] using this
@[simp] theorem slB51 {k' : IntKind} {y : Int} (h0 : 0 ≤ x) (h1 : x ≤ y) (h2 : y ≤ (c : Int)) (hnc : n ≤ c) : pSlice P 51 (sl b o n c) (some (.int k x)) (some (.int k' y)) none w = some (.slice (some ⟨b, if c = x.toNat then o else o + x.toNat * 15, none⟩) (y.toNat - x.toNat) (c - x.toNat), w) := by
  have := pSlice_slice (P := P) (t := 51) (w := w) (b := b) (o := o) (lo := (some (.int k x))) (hi := (some (.int k' y))) sliceE51 tyOk60 rfl rfl h0 h1 h2 hnc; simpa [bLo, bHi] using this
@[simp] theorem slN51  (hnc : n ≤ c) : pSlice P 51 (sl b o n c) none none none w = some (.slice (some ⟨b, o, none⟩) (n) (c), w) := by
  have := pSlice_slice (P := P) (t := 51) (w := w) (b := b) (o := o) (lo := none) (hi := none) sliceE51 tyOk60 rfl rfl (Int.le_refl 0) (by simp [bLo, bHi]) (by simp [bHi]; omega) hnc; simpa [bLo, bHi] using this
@[simp] theorem bsl51 {ps : List (Nat × Value)} (hbig : n * 15 ≤ 2 ^ 24) (hp : ∀ p ∈ ps, p.2.cells.size = 15 ∧ p.1 < n) : pBuildSlice P 51 n ps w = some (sl (sz w) 0 n n,
    nw w (ps.foldl (fun l p => splice l (p.1 * 15) p.2.cells.toList) (List.replicate n ([(Value.int IntKind.i64 0), (Value.int IntKind.i64 0), (Value.string ByteArray.empty), (Value.int IntKind.i64 0), (Value.float FloatKind.f64 0), (Value.string ByteArray.empty), (Value.int IntKind.i64 0), (Value.int IntKind.i64 0), (Value.int IntKind.i64 0), (Value.int IntKind.i64 0), (Value.float FloatKind.f64 0), (Value.int IntKind.i64 0), (Value.string ByteArray.empty), (Value.slice none 0 0)] ++ List.replicate 1 (Value.bool false))).flatten) 60) := by
  have := pBuildSlice_eq (w := w) sliceE51 hasZero60 tyOk60 cellsOf60 (by rw [zeroL60]; rfl) hbig hp; rwa [zeroL60] at this
@[simp] theorem al53 : pAlloc P 53 w = some (pt (sz w) 0, nw w ([(Value.pointer none)]) 53) := by rw [pAlloc_eq hasZero53, zeroL53]
@[simp] theorem ld53 (h : i < (mm w b).length) : pLoad P 53 (pt b i) w = some (gt (mm w b) i, w) := pLoad_scal tyOk53 isAggB53 h
@[simp] theorem st53 (hv : v.oneCell' = true) (hf : fz w b = false) (hi : i < (mm w b).length) : pStore P 53 (pt b i) v w = some (wr w b ((mm w b).set i v)) := pStore_one tyOk53 cellsOf53 hv hf hi
@[simp] theorem eqn53 {lit : Bool} {q : Option Addr} : pBin P .eql 53 lit (.pointer q) (.pointer none) w = some (.bool q.isNone, w) := eqNil und53
@[simp] theorem nen53 {lit : Bool} {q : Option Addr} : pBin P .neq 53 lit (.pointer q) (.pointer none) w = some (.bool q.isSome, w) := neNil und53
@[simp] theorem al56 : pAlloc P 56 w = some (pt (sz w) 0, nw w ([(Value.slice none 0 0)]) 56) := by rw [pAlloc_eq hasZero56, zeroL56]
@[simp] theorem ld56 (h : i < (mm w b).length) : pLoad P 56 (pt b i) w = some (gt (mm w b) i, w) := pLoad_scal tyOk56 isAggB56 h
@[simp] theorem st56 (hv : v.oneCell' = true) (hf : fz w b = false) (hi : i < (mm w b).length) : pStore P 56 (pt b i) v w = some (wr w b ((mm w b).set i v)) := pStore_one tyOk56 cellsOf56 hv hf hi
@[simp] theorem ia56 (h0 : 0 ≤ j) (h1 : j < n) : pIndexAddr P 56 (sl b o n c) (.int k j) w = some (pt b (o + j.toNat * 8), w) := by
  have := pIndexAddr_slice (w := w) (b := b) (o := o) (c := c) (k := k) sliceE56 tyOk25 h0 h1; rwa [cellsOf25] at this
@[simp] theorem len56 {ty : TypeId} {a : Option Addr} : pBuiltin P .len #[56] ty [.slice a n c] w = some (i64 n, w) := len_slice sliceE56
@[simp] theorem slL56 (h0 : 0 ≤ x) (h1 : x ≤ (n : Int)) (hnc : n ≤ c) : pSlice P 56 (sl b o n c) (some (.int k x)) none none w = some (.slice (some ⟨b, if c = x.toNat then o else o + x.toNat * 8, none⟩) (n - x.toNat) (c - x.toNat), w) := by
  have := pSlice_slice (P := P) (t := 56) (w := w) (b := b) (o := o) (lo := (some (.int k x))) (hi := none) sliceE56 tyOk25 rfl rfl h0 h1 (by simp [bHi]; omega) hnc; simpa [bLo, bHi] using this
@[simp] theorem slH56 {k' : IntKind} {y : Int} (h0 : 0 ≤ y) (h1 : y ≤ (c : Int)) (hnc : n ≤ c) : pSlice P 56 (sl b o n c) none (some (.int k' y)) none w = some (.slice (some ⟨b, o, none⟩) (y.toNat) (c), w) := by
  have := pSlice_slice (P := P) (t := 56) (w := w) (b := b) (o := o) (lo := none) (hi := (some (.int k' y))) sliceE56 tyOk25 rfl rfl (Int.le_refl 0) h0 h1 hnc; simpa [bLo, bHi] using this
@[simp] theorem slB56 {k' : IntKind} {y : Int} (h0 : 0 ≤ x) (h1 : x ≤ y) (h2 : y ≤ (c : Int)) (hnc : n ≤ c) : pSlice P 56 (sl b o n c) (some (.int k x)) (some (.int k' y)) none w = some (.slice (some ⟨b, if c = x.toNat then o else o + x.toNat * 8, none⟩) (y.toNat - x.toNat) (c - x.toNat), w) := by
  have := pSlice_slice (P := P) (t := 56) (w := w) (b := b) (o := o) (lo := (some (.int k x))) (hi := (some (.int k' y))) sliceE56 tyOk25 rfl rfl h0 h1 h2 hnc; simpa [bLo, bHi] using this
@[simp] theorem slN56  (hnc : n ≤ c) : pSlice P 56 (sl b o n c) none none none w = some (.slice (some ⟨b, o, none⟩) (n) (c), w) := by
  have := pSlice_slice (P := P) (t := 56) (w := w) (b := b) (o := o) (lo := none) (hi := none) sliceE56 tyOk25 rfl rfl (Int.le_refl 0) (by simp [bLo, bHi]) (by simp [bHi]; omega) hnc; simpa [bLo, bHi] using this
@[simp] theorem bsl56 {ps : List (Nat × Value)} (hbig : n * 8 ≤ 2 ^ 24) (hp : ∀ p ∈ ps, p.2.cells.size = 8 ∧ p.1 < n) : pBuildSlice P 56 n ps w = some (sl (sz w) 0 n n,
    nw w (ps.foldl (fun l p => splice l (p.1 * 8) p.2.cells.toList) (List.replicate n ([(Value.int IntKind.i64 0), (Value.int IntKind.i64 0), (Value.int IntKind.i64 0), (Value.int IntKind.i64 0), (Value.float FloatKind.f64 0), (Value.int IntKind.i64 0), (Value.string ByteArray.empty), (Value.slice none 0 0)])).flatten) 25) := by
  have := pBuildSlice_eq (w := w) sliceE56 hasZero25 tyOk25 cellsOf25 (by rw [zeroL25]; rfl) hbig hp; rwa [zeroL25] at this
@[simp] theorem al59 : pAlloc P 59 w = some (pt (sz w) 0, nw w ([(Value.int IntKind.i64 0), (Value.int IntKind.i64 0), (Value.string ByteArray.empty), (Value.int IntKind.i64 0), (Value.float FloatKind.f64 0), (Value.string ByteArray.empty), (Value.int IntKind.i64 0), (Value.int IntKind.i64 0), (Value.int IntKind.i64 0), (Value.int IntKind.i64 0), (Value.float FloatKind.f64 0), (Value.int IntKind.i64 0), (Value.string ByteArray.empty), (Value.slice none 0 0)] ++ List.replicate 1 (Value.bool false)) 59) := by rw [pAlloc_eq hasZero59, zeroL59]
@[simp] theorem ld59 (h : i + 15 ≤ (mm w b).length) : pLoad P 59 (pt b i) w = some (.agg (((mm w b).drop i).take 15).toArray, w) := by
  have := pLoad_agg (w := w) (b := b) (i := i) tyOk59 isAggB59 (by rw [cellsOf59]; exact h); rwa [cellsOf59] at this
@[simp] theorem st59 (hs : a.size = 15) (hv : ∀ v ∈ a.toList, v.oneCell' = true) (hf : fz w b = false) (hi : i + 15 ≤ (mm w b).length) : pStore P 59 (pt b i) (.agg a) w = some (wr w b (splice (mm w b) i a.toList)) :=
  pStore_agg tyOk59 (by rw [cellsOf59, hs]) hv hf (by rw [hs]; exact hi)
@[simp] theorem fa59n0 : pFieldAddr P 59 (pt b i) 0 w = some (pt b (i + 0), w) := pFieldAddr_eq field59n0 tyOk3 (by rw [cellsOf3]; rfl)
@[simp] theorem fi59n0 (h : 0 < a.size) : pField P 59 (.agg a) 0 w = some (gt a.toList 0, w) := pField_scal field59n0 tyOk3 isAggB3 h
@[simp] theorem fa59n1 : pFieldAddr P 59 (pt b i) 1 w = some (pt b (i + 1), w) := pFieldAddr_eq field59n1 tyOk27 (by rw [cellsOf27]; rfl)
@[simp] theorem fi59n1 : pField P 59 (.agg a) 1 w = some (.agg ((a.toList.drop 1).take 14).toArray, w) := by
  have := pField_agg (w := w) (x := a) field59n1 tyOk27 isAggB27; rwa [cellsOf27] at this
@[simp] theorem al60 : pAlloc P 60 w = some (pt (sz w) 0, nw w ([(Value.int IntKind.i64 0), (Value.int IntKind.i64 0), (Value.string ByteArray.empty), (Value.int IntKind.i64 0), (Value.float FloatKind.f64 0), (Value.string ByteArray.empty), (Value.int IntKind.i64 0), (Value.int IntKind.i64 0), (Value.int IntKind.i64 0), (Value.int IntKind.i64 0), (Value.float FloatKind.f64 0), (Value.int IntKind.i64 0), (Value.string ByteArray.empty), (Value.slice none 0 0)] ++ List.replicate 1 (Value.bool false)) 60) := by rw [pAlloc_eq hasZero60, zeroL60]
@[simp] theorem ld60 (h : i + 15 ≤ (mm w b).length) : pLoad P 60 (pt b i) w = some (.agg (((mm w b).drop i).take 15).toArray, w) := by
  have := pLoad_agg (w := w) (b := b) (i := i) tyOk60 isAggB60 (by rw [cellsOf60]; exact h); rwa [cellsOf60] at this
@[simp] theorem st60 (hs : a.size = 15) (hv : ∀ v ∈ a.toList, v.oneCell' = true) (hf : fz w b = false) (hi : i + 15 ≤ (mm w b).length) : pStore P 60 (pt b i) (.agg a) w = some (wr w b (splice (mm w b) i a.toList)) :=
  pStore_agg tyOk60 (by rw [cellsOf60, hs]) hv hf (by rw [hs]; exact hi)
@[simp] theorem fa60n0 : pFieldAddr P 60 (pt b i) 0 w = some (pt b (i + 0), w) := pFieldAddr_eq field60n0 tyOk3 (by rw [cellsOf3]; rfl)
@[simp] theorem fi60n0 (h : 0 < a.size) : pField P 60 (.agg a) 0 w = some (gt a.toList 0, w) := pField_scal field60n0 tyOk3 isAggB3 h
@[simp] theorem fa60n1 : pFieldAddr P 60 (pt b i) 1 w = some (pt b (i + 1), w) := pFieldAddr_eq field60n1 tyOk27 (by rw [cellsOf27]; rfl)
@[simp] theorem fi60n1 : pField P 60 (.agg a) 1 w = some (.agg ((a.toList.drop 1).take 14).toArray, w) := by
  have := pField_agg (w := w) (x := a) field60n1 tyOk27 isAggB27; rwa [cellsOf27] at this
@[simp] theorem al84 : pAlloc P 84 w = some (pt (sz w) 0, nw w ([(Value.slice none 0 0)]) 84) := by rw [pAlloc_eq hasZero84, zeroL84]
@[simp] theorem ld84 (h : i < (mm w b).length) : pLoad P 84 (pt b i) w = some (gt (mm w b) i, w) := pLoad_scal tyOk84 isAggB84 h
@[simp] theorem st84 (hv : v.oneCell' = true) (hf : fz w b = false) (hi : i < (mm w b).length) : pStore P 84 (pt b i) v w = some (wr w b ((mm w b).set i v)) := pStore_one tyOk84 cellsOf84 hv hf hi
@[simp] theorem ia84 (h0 : 0 ≤ j) (h1 : j < n) : pIndexAddr P 84 (sl b o n c) (.int k j) w = some (pt b (o + j.toNat * 2), w) := by
  have := pIndexAddr_slice (w := w) (b := b) (o := o) (c := c) (k := k) sliceE84 tyOk88 h0 h1; rwa [cellsOf88] at this
@[simp] theorem len84 {ty : TypeId} {a : Option Addr} : pBuiltin P .len #[84] ty [.slice a n c] w = some (i64 n, w) := len_slice sliceE84
@[simp] theorem slL84 (h0 : 0 ≤ x) (h1 : x ≤ (n : Int)) (hnc : n ≤ c) : pSlice P 84 (sl b o n c) (some (.int k x)) none none w = some (.slice (some ⟨b, if c = x.toNat then o else o + x.toNat * 2, none⟩) (n - x.toNat) (c - x.toNat), w) := by
  have := pSlice_slice (P := P) (t := 84) (w := w) (b := b) (o := o) (lo := (some (.int k x))) (hi := none) sliceE84 tyOk88 rfl rfl h0 h1 (by simp [bHi]; omega) hnc; simpa [bLo, bHi] using this
@[simp] theorem slH84 {k' : IntKind} {y : Int} (h0 : 0 ≤ y) (h1 : y ≤ (c : Int)) (hnc : n ≤ c) : pSlice P 84 (sl b o n c) none (some (.int k' y)) none w = some (.slice (some ⟨b, o, none⟩) (y.toNat) (c), w) := by
  have := pSlice_slice (P := P) (t := 84) (w := w) (b := b) (o := o) (lo := none) (hi := (some (.int k' y))) sliceE84 tyOk88 rfl rfl (Int.le_refl 0) h0 h1 hnc; simpa [bLo, bHi] using this
@[simp] theorem slB84 {k' : IntKind} {y : Int} (h0 : 0 ≤ x) (h1 : x ≤ y) (h2 : y ≤ (c : Int)) (hnc : n ≤ c) : pSlice P 84 (sl b o n c) (some (.int k x)) (some (.int k' y)) none w = some (.slice (some ⟨b, if c = x.toNat then o else o + x.toNat * 2, none⟩) (y.toNat - x.toNat) (c - x.toNat), w) := by
  have := pSlice_slice (P := P) (t := 84) (w := w) (b := b) (o := o) (lo := (some (.int k x))) (hi := (some (.int k' y))) sliceE84 tyOk88 rfl rfl h0 h1 h2 hnc; simpa [bLo, bHi] using this
@[simp] theorem slN84  (hnc : n ≤ c) : pSlice P 84 (sl b o n c) none none none w = some (.slice (some ⟨b, o, none⟩) (n) (c), w) := by
  have := pSlice_slice (P := P) (t := 84) (w := w) (b := b) (o := o) (lo := none) (hi := none) sliceE84 tyOk88 rfl rfl (Int.le_refl 0) (by simp [bLo, bHi]) (by simp [bHi]; omega) hnc; simpa [bLo, bHi] using this
@[simp] theorem bsl84 {ps : List (Nat × Value)} (hbig : n * 2 ≤ 2 ^ 24) (hp : ∀ p ∈ ps, p.2.cells.size = 2 ∧ p.1 < n) : pBuildSlice P 84 n ps w = some (sl (sz w) 0 n n,
    nw w (ps.foldl (fun l p => splice l (p.1 * 2) p.2.cells.toList) (List.replicate n ([(Value.int IntKind.u64 0), (Value.int IntKind.u64 0)])).flatten) 88) := by
  have := pBuildSlice_eq (w := w) sliceE84 hasZero88 tyOk88 cellsOf88 (by rw [zeroL88]; rfl) hbig hp; rwa [zeroL88] at this
@[simp] theorem al86 : pAlloc P 86 w = some (pt (sz w) 0, nw w ([(Value.int IntKind.i64 0), (Value.int IntKind.i64 0), (Value.int IntKind.i64 0), (Value.int IntKind.i64 0), (Value.float FloatKind.f64 0), (Value.int IntKind.i64 0), (Value.string ByteArray.empty), (Value.slice none 0 0), (Value.slice none 0 0)]) 86) := by rw [pAlloc_eq hasZero86, zeroL86]
@[simp] theorem ld86 (h : i + 9 ≤ (mm w b).length) : pLoad P 86 (pt b i) w = some (.agg (((mm w b).drop i).take 9).toArray, w) := by
  have := pLoad_agg (w := w) (b := b) (i := i) tyOk86 isAggB86 (by rw [cellsOf86]; exact h); rwa [cellsOf86] at this
@[simp] theorem st86 (hs : a.size = 9) (hv : ∀ v ∈ a.toList, v.oneCell' = true) (hf : fz w b = false) (hi : i + 9 ≤ (mm w b).length) : pStore P 86 (pt b i) (.agg a) w = some (wr w b (splice (mm w b) i a.toList)) :=
  pStore_agg tyOk86 (by rw [cellsOf86, hs]) hv hf (by rw [hs]; exact hi)
@[simp] theorem fa86n0 : pFieldAddr P 86 (pt b i) 0 w = some (pt b (i + 0), w) := pFieldAddr_eq field86n0 tyOk25 (by rw [cellsOf25]; rfl)
@[simp] theorem fi86n0 : pField P 86 (.agg a) 0 w = some (.agg ((a.toList.drop 0).take 8).toArray, w) := by
  have := pField_agg (w := w) (x := a) field86n0 tyOk25 isAggB25; rwa [cellsOf25] at this
@[simp] theorem fa86n1 : pFieldAddr P 86 (pt b i) 1 w = some (pt b (i + 8), w) := pFieldAddr_eq field86n1 tyOk84 (by rw [cellsOf84]; rfl)
@[simp] theorem fi86n1 (h : 8 < a.size) : pField P 86 (.agg a) 1 w = some (gt a.toList 8, w) := pField_scal field86n1 tyOk84 isAggB84 h
@[simp] theorem al88 : pAlloc P 88 w = some (pt (sz w) 0, nw w ([(Value.int IntKind.u64 0), (Value.int IntKind.u64 0)]) 88) := by rw [pAlloc_eq hasZero88, zeroL88]
@[simp] theorem ld88 (h : i + 2 ≤ (mm w b).length) : pLoad P 88 (pt b i) w = some (.agg (((mm w b).drop i).take 2).toArray, w) := by
  have := pLoad_agg (w := w) (b := b) (i := i) tyOk88 isAggB88 (by rw [cellsOf88]; exact h); rwa [cellsOf88] at this
@[simp] theorem st88 (hs : a.size = 2) (hv : ∀ v ∈ a.toList, v.oneCell' = true) (hf : fz w b = false) (hi : i + 2 ≤ (mm w b).length) : pStore P 88 (pt b i) (.agg a) w = some (wr w b (splice (mm w b) i a.toList)) :=
  pStore_agg tyOk88 (by rw [cellsOf88, hs]) hv hf (by rw [hs]; exact hi)
@[simp] theorem bf88 {ps : List (Nat × Value)} (hp : ∀ p ∈ ps, p.1 < 2 ∧ p.2.oneCell' = true) : pBuild P 88 ps w = some (.agg (ps.foldl (fun l p => l.set p.1 p.2) ([(Value.int IntKind.u64 0), (Value.int IntKind.u64 0)])).toArray, w) := by
  have := pBuild_flat (w := w) (ps := ps) hasZero88 (by kernel_rfl) (by kernel_rfl) (by rw [zeroL88]; exact hp); rwa [zeroL88] at this
@[simp] theorem fa88n0 : pFieldAddr P 88 (pt b i) 0 w = some (pt b (i + 0), w) := pFieldAddr_eq field88n0 tyOk58 (by rw [cellsOf58]; rfl)
@[simp] theorem fi88n0 (h : 0 < a.size) : pField P 88 (.agg a) 0 w = some (gt a.toList 0, w) := pField_scal field88n0 tyOk58 isAggB58 h
@[simp] theorem fa88n1 : pFieldAddr P 88 (pt b i) 1 w = some (pt b (i + 1), w) := pFieldAddr_eq field88n1 tyOk58 (by rw [cellsOf58]; rfl)
@[simp] theorem fi88n1 (h : 1 < a.size) : pField P 88 (.agg a) 1 w = some (gt a.toList 1, w) := pField_scal field88n1 tyOk58 isAggB58 h
end
end Go.Proofs.YtieejbkbdfccdaaDoor
