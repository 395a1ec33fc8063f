/- Facts on the program's types, printed by types.py. -/
import Derived.Test.YtieejbkbdfccdaaPrims3
import Derived.Test.YtieejbkbdfccdaaBase
set_option linter.unusedVariables false
namespace Go.Proofs.Ytieejbkbdfccdaa
open Go

section
variable {w : World} {b i o n c : Nat} {k : IntKind} {x j : Int} {v : Value} {a : Array Value} {lo hi : Option Value}

@[simp] theorem tyOk2 : tyOk P 2 = true := by kernel_rfl
@[simp] theorem isAggB2 : isAggB P 2 = false := by kernel_rfl
@[simp] theorem cellsOf2 : P.cellsOf 2 = 1 := by kernel_rfl
@[simp] theorem bytesOf2 : P.bytesOf 2 = 8 := by kernel_rfl
@[simp] theorem hasZero2 : hasZero P 2 = true := by kernel_rfl
@[simp] theorem zeroL2 : zeroL P 2 = [(Value.int IntKind.i64 0)] := by kernel_rfl
@[simp] theorem intK2 : intK P 2 = some IntKind.i64 := by kernel_rfl
@[simp] theorem und2 : P.underlying 2 = some (.int .i64) := by kernel_rfl
@[simp] theorem tyOk3 : tyOk P 3 = true := by kernel_rfl
@[simp] theorem isAggB3 : isAggB P 3 = false := by kernel_rfl
@[simp] theorem cellsOf3 : P.cellsOf 3 = 1 := by kernel_rfl
@[simp] theorem bytesOf3 : P.bytesOf 3 = 8 := by kernel_rfl
@[simp] theorem hasZero3 : hasZero P 3 = true := by kernel_rfl
@[simp] theorem zeroL3 : zeroL P 3 = [(Value.int IntKind.i64 0)] := by kernel_rfl
@[simp] theorem intK3 : intK P 3 = some IntKind.i64 := by kernel_rfl
@[simp] theorem und3 : P.underlying 3 = some (.int .i64) := by kernel_rfl
@[simp] theorem tyOk4 : tyOk P 4 = true := by kernel_rfl
@[simp] theorem isAggB4 : isAggB P 4 = false := by kernel_rfl
@[simp] theorem cellsOf4 : P.cellsOf 4 = 1 := by kernel_rfl
@[simp] theorem bytesOf4 : P.bytesOf 4 = 1 := by kernel_rfl
@[simp] theorem hasZero4 : hasZero P 4 = true := by kernel_rfl
@[simp] theorem zeroL4 : zeroL P 4 = [(Value.bool false)] := by kernel_rfl
@[simp] theorem und4 : P.underlying 4 = some .bool := by kernel_rfl
@[simp] theorem tyOk5 : tyOk P 5 = true := by kernel_rfl
@[simp] theorem isAggB5 : isAggB P 5 = false := by kernel_rfl
@[simp] theorem cellsOf5 : P.cellsOf 5 = 1 := by kernel_rfl
@[simp] theorem bytesOf5 : P.bytesOf 5 = 1 := by kernel_rfl
@[simp] theorem hasZero5 : hasZero P 5 = true := by kernel_rfl
@[simp] theorem zeroL5 : zeroL P 5 = [(Value.int IntKind.u8 0)] := by kernel_rfl
@[simp] theorem intK5 : intK P 5 = some IntKind.u8 := by kernel_rfl
@[simp] theorem und5 : P.underlying 5 = some (.int .u8) := by kernel_rfl
@[simp] theorem tyOk9 : tyOk P 9 = true := by kernel_rfl
@[simp] theorem isAggB9 : isAggB P 9 = false := by kernel_rfl
@[simp] theorem cellsOf9 : P.cellsOf 9 = 1 := by kernel_rfl
@[simp] theorem bytesOf9 : P.bytesOf 9 = 16 := by kernel_rfl
@[simp] theorem hasZero9 : hasZero P 9 = true := by kernel_rfl
@[simp] theorem zeroL9 : zeroL P 9 = [(Value.string ByteArray.empty)] := by kernel_rfl
@[simp] theorem und9 : P.underlying 9 = some .string := by kernel_rfl
@[simp] theorem tyOk22 : tyOk P 22 = true := by kernel_rfl
@[simp] theorem isAggB22 : isAggB P 22 = false := by kernel_rfl
@[simp] theorem cellsOf22 : P.cellsOf 22 = 1 := by kernel_rfl
@[simp] theorem bytesOf22 : P.bytesOf 22 = 24 := by kernel_rfl
@[simp] theorem hasZero22 : hasZero P 22 = true := by kernel_rfl
@[simp] theorem zeroL22 : zeroL P 22 = [(Value.slice none 0 0)] := by kernel_rfl
@[simp] theorem sliceE22 : sliceE P 22 = some 25 := by kernel_rfl
@[simp] theorem tyOk23 : tyOk P 23 = true := by kernel_rfl
@[simp] theorem isAggB23 : isAggB P 23 = false := by kernel_rfl
@[simp] theorem cellsOf23 : P.cellsOf 23 = 1 := by kernel_rfl
@[simp] theorem bytesOf23 : P.bytesOf 23 = 24 := by kernel_rfl
@[simp] theorem hasZero23 : hasZero P 23 = true := by kernel_rfl
@[simp] theorem zeroL23 : zeroL P 23 = [(Value.slice none 0 0)] := by kernel_rfl
@[simp] theorem sliceE23 : sliceE P 23 = some 5 := by kernel_rfl
@[simp] theorem tyOk25 : tyOk P 25 = true := by kernel_rfl
@[simp] theorem isAggB25 : isAggB P 25 = false := by kernel_rfl
@[simp] theorem cellsOf25 : P.cellsOf 25 = 1 := by kernel_rfl
@[simp] theorem bytesOf25 : P.bytesOf 25 = 8 := by kernel_rfl
@[simp] theorem hasZero25 : hasZero P 25 = true := by kernel_rfl
@[simp] theorem zeroL25 : zeroL P 25 = [(Value.float FloatKind.f64 0)] := by kernel_rfl
@[simp] theorem tyOk26 : tyOk P 26 = true := by kernel_rfl
@[simp] theorem isAggB26 : isAggB P 26 = false := by kernel_rfl
@[simp] theorem cellsOf26 : P.cellsOf 26 = 1 := by kernel_rfl
@[simp] theorem bytesOf26 : P.bytesOf 26 = 8 := by kernel_rfl
@[simp] theorem hasZero26 : hasZero P 26 = true := by kernel_rfl
@[simp] theorem zeroL26 : zeroL P 26 = [(Value.int IntKind.u64 0)] := by kernel_rfl
@[simp] theorem intK26 : intK P 26 = some IntKind.u64 := by kernel_rfl
@[simp] theorem und26 : P.underlying 26 = some (.int .u64) := by kernel_rfl
@[simp] theorem tyOk28 : tyOk P 28 = true := by kernel_rfl
@[simp] theorem isAggB28 : isAggB P 28 = true := by kernel_rfl
@[simp] theorem cellsOf28 : P.cellsOf 28 = 6 := by kernel_rfl
@[simp] theorem bytesOf28 : P.bytesOf 28 = 56 := by kernel_rfl
@[simp] theorem hasZero28 : hasZero P 28 = true := by kernel_rfl
@[simp] theorem zeroL28 : zeroL P 28 = [(Value.int IntKind.u8 0), (Value.int IntKind.u64 0), (Value.int IntKind.i64 0), (Value.float FloatKind.f64 0), (Value.string ByteArray.empty), (Value.bool false)] := by kernel_rfl
@[simp] theorem eqg28 : P.eqGuardType P.depth 28 = false := by kernel_rfl
@[simp] theorem field28n0 : fieldB P 28 0 = some (0, 5) := by kernel_rfl
@[simp] theorem field28n1 : fieldB P 28 1 = some (1, 26) := by kernel_rfl
@[simp] theorem field28n2 : fieldB P 28 2 = some (2, 2) := by kernel_rfl
@[simp] theorem field28n3 : fieldB P 28 3 = some (3, 25) := by kernel_rfl
@[simp] theorem field28n4 : fieldB P 28 4 = some (4, 9) := by kernel_rfl
@[simp] theorem field28n5 : fieldB P 28 5 = some (5, 4) := by kernel_rfl
@[simp] theorem tyOk30 : tyOk P 30 = true := by kernel_rfl
@[simp] theorem isAggB30 : isAggB P 30 = false := by kernel_rfl
@[simp] theorem cellsOf30 : P.cellsOf 30 = 1 := by kernel_rfl
@[simp] theorem bytesOf30 : P.bytesOf 30 = 24 := by kernel_rfl
@[simp] theorem hasZero30 : hasZero P 30 = true := by kernel_rfl
@[simp] theorem zeroL30 : zeroL P 30 = [(Value.slice none 0 0)] := by kernel_rfl
@[simp] theorem sliceE30 : sliceE P 30 = some 9 := by kernel_rfl
@[simp] theorem tyOk32 : tyOk P 32 = true := by kernel_rfl
@[simp] theorem isAggB32 : isAggB P 32 = false := by kernel_rfl
@[simp] theorem cellsOf32 : P.cellsOf 32 = 1 := by kernel_rfl
@[simp] theorem bytesOf32 : P.bytesOf 32 = 24 := by kernel_rfl
@[simp] theorem hasZero32 : hasZero P 32 = true := by kernel_rfl
@[simp] theorem zeroL32 : zeroL P 32 = [(Value.slice none 0 0)] := by kernel_rfl
@[simp] theorem sliceE32 : sliceE P 32 = some 28 := by kernel_rfl
@[simp] theorem tyOk33 : tyOk P 33 = true := by kernel_rfl
@[simp] theorem isAggB33 : isAggB P 33 = false := by kernel_rfl
@[simp] theorem cellsOf33 : P.cellsOf 33 = 1 := by kernel_rfl
@[simp] theorem bytesOf33 : P.bytesOf 33 = 8 := by kernel_rfl
@[simp] theorem hasZero33 : hasZero P 33 = true := by kernel_rfl
@[simp] theorem zeroL33 : zeroL P 33 = [(Value.int IntKind.i64 0)] := by kernel_rfl
@[simp] theorem intK33 : intK P 33 = some IntKind.i64 := by kernel_rfl
@[simp] theorem und33 : P.underlying 33 = some (.int .i64) := by kernel_rfl
@[simp] theorem tyOk35 : tyOk P 35 = true := by kernel_rfl
@[simp] theorem isAggB35 : isAggB P 35 = true := by kernel_rfl
@[simp] theorem cellsOf35 : P.cellsOf 35 = 2 := by kernel_rfl
@[simp] theorem bytesOf35 : P.bytesOf 35 = 16 := by kernel_rfl
@[simp] theorem hasZero35 : hasZero P 35 = true := by kernel_rfl
@[simp] theorem zeroL35 : zeroL P 35 = [(Value.int IntKind.i64 0), (Value.int IntKind.i64 0)] := by kernel_rfl
@[simp] theorem eqg35 : P.eqGuardType P.depth 35 = false := by kernel_rfl
@[simp] theorem field35n0 : fieldB P 35 0 = some (0, 33) := by kernel_rfl
@[simp] theorem field35n1 : fieldB P 35 1 = some (1, 3) := by kernel_rfl
@[simp] theorem tyOk41 : tyOk P 41 = true := by kernel_rfl
@[simp] theorem isAggB41 : isAggB P 41 = true := by kernel_rfl
@[simp] theorem cellsOf41 : P.cellsOf 41 = 1 := by kernel_rfl
@[simp] theorem bytesOf41 : P.bytesOf 41 = 24 := by kernel_rfl
@[simp] theorem hasZero41 : hasZero P 41 = true := by kernel_rfl
@[simp] theorem zeroL41 : zeroL P 41 = [(Value.slice none 0 0)] := by kernel_rfl
@[simp] theorem eqg41 : P.eqGuardType P.depth 41 = false := by kernel_rfl
@[simp] theorem field41n0 : fieldB P 41 0 = some (0, 23) := by kernel_rfl
@[simp] theorem tyOk53 : tyOk P 53 = true := by kernel_rfl
@[simp] theorem isAggB53 : isAggB P 53 = false := by kernel_rfl
@[simp] theorem cellsOf53 : P.cellsOf 53 = 1 := by kernel_rfl
@[simp] theorem bytesOf53 : P.bytesOf 53 = 8 := by kernel_rfl
@[simp] theorem hasZero53 : hasZero P 53 = true := by kernel_rfl
@[simp] theorem zeroL53 : zeroL P 53 = [(Value.pointer none)] := by kernel_rfl
@[simp] theorem und53 : P.underlying 53 = some (.pointer 74) := by kernel_rfl
@[simp] theorem tyOk58 : tyOk P 58 = true := by kernel_rfl
@[simp] theorem isAggB58 : isAggB P 58 = false := by kernel_rfl
@[simp] theorem cellsOf58 : P.cellsOf 58 = 1 := by kernel_rfl
@[simp] theorem bytesOf58 : P.bytesOf 58 = 8 := by kernel_rfl
@[simp] theorem hasZero58 : hasZero P 58 = true := by kernel_rfl
@[simp] theorem zeroL58 : zeroL P 58 = [(Value.pointer none)] := by kernel_rfl
@[simp] theorem und58 : P.underlying 58 = some (.pointer 41) := by kernel_rfl
@[simp] theorem tyOk74 : tyOk P 74 = true := by kernel_rfl
@[simp] theorem isAggB74 : isAggB P 74 = true := by kernel_rfl
@[simp] theorem cellsOf74 : P.cellsOf 74 = 2 := by kernel_rfl
@[simp] theorem bytesOf74 : P.bytesOf 74 = 32 := by kernel_rfl
@[simp] theorem hasZero74 : hasZero P 74 = true := by kernel_rfl
@[simp] theorem zeroL74 : zeroL P 74 = [(Value.slice none 0 0), (Value.int IntKind.i64 0)] := by kernel_rfl
@[simp] theorem eqg74 : P.eqGuardType P.depth 74 = false := by kernel_rfl
@[simp] theorem field74n0 : fieldB P 74 0 = some (0, 23) := by kernel_rfl
@[simp] theorem field74n1 : fieldB P 74 1 = some (1, 3) := by kernel_rfl
@[simp] theorem al2 : pAlloc P 2 w = some (pt (sz w) 0, nw w ([(Value.int IntKind.i64 0)]) 2) := by rw [pAlloc_eq hasZero2, zeroL2]
@[simp] theorem ld2 (h : i < (mm w b).length) : pLoad P 2 (pt b i) w = some (gt (mm w b) i, w) := pLoad_scal tyOk2 isAggB2 h
@[simp] theorem st2 (hv : v.oneCell' = true) (hf : fz w b = false) (hi : i < (mm w b).length) : pStore P 2 (pt b i) v w = some (wr w b ((mm w b).set i v)) := pStore_one tyOk2 cellsOf2 hv hf hi
@[simp] theorem cv2 {s : TypeId} (hs : tyOk P s = true) : pConv P s 2 (.int k x) w = some (.int .i64 (IntKind.wrap .i64 x), w) := pConv_int hs intK2
@[simp] theorem al3 : pAlloc P 3 w = some (pt (sz w) 0, nw w ([(Value.int IntKind.i64 0)]) 3) := by rw [pAlloc_eq hasZero3, zeroL3]
@[simp] theorem ld3 (h : i < (mm w b).length) : pLoad P 3 (pt b i) w = some (gt (mm w b) i, w) := pLoad_scal tyOk3 isAggB3 h
@[simp] theorem st3 (hv : v.oneCell' = true) (hf : fz w b = false) (hi : i < (mm w b).length) : pStore P 3 (pt b i) v w = some (wr w b ((mm w b).set i v)) := pStore_one tyOk3 cellsOf3 hv hf hi
@[simp] theorem cv3 {s : TypeId} (hs : tyOk P s = true) : pConv P s 3 (.int k x) w = some (.int .i64 (IntKind.wrap .i64 x), w) := pConv_int hs intK3
@[simp] theorem al4 : pAlloc P 4 w = some (pt (sz w) 0, nw w ([(Value.bool false)]) 4) := by rw [pAlloc_eq hasZero4, zeroL4]
@[simp] theorem ld4 (h : i < (mm w b).length) : pLoad P 4 (pt b i) w = some (gt (mm w b) i, w) := pLoad_scal tyOk4 isAggB4 h
@[simp] theorem st4 (hv : v.oneCell' = true) (hf : fz w b = false) (hi : i < (mm w b).length) : pStore P 4 (pt b i) v w = some (wr w b ((mm w b).set i v)) := pStore_one tyOk4 cellsOf4 hv hf hi
@[simp] theorem al5 : pAlloc P 5 w = some (pt (sz w) 0, nw w ([(Value.int IntKind.u8 0)]) 5) := by rw [pAlloc_eq hasZero5, zeroL5]
@[simp] theorem ld5 (h : i < (mm w b).length) : pLoad P 5 (pt b i) w = some (gt (mm w b) i, w) := pLoad_scal tyOk5 isAggB5 h
@[simp] theorem st5 (hv : v.oneCell' = true) (hf : fz w b = false) (hi : i < (mm w b).length) : pStore P 5 (pt b i) v w = some (wr w b ((mm w b).set i v)) := pStore_one tyOk5 cellsOf5 hv hf hi
@[simp] theorem cv5 {s : TypeId} (hs : tyOk P s = true) : pConv P s 5 (.int k x) w = some (.int .u8 (IntKind.wrap .u8 x), w) := pConv_int hs intK5
@[simp] theorem al9 : pAlloc P 9 w = some (pt (sz w) 0, nw w ([(Value.string ByteArray.empty)]) 9) := by rw [pAlloc_eq hasZero9, zeroL9]
@[simp] theorem ld9 (h : i < (mm w b).length) : pLoad P 9 (pt b i) w = some (gt (mm w b) i, w) := pLoad_scal tyOk9 isAggB9 h
@[simp] theorem st9 (hv : v.oneCell' = true) (hf : fz w b = false) (hi : i < (mm w b).length) : pStore P 9 (pt b i) v w = some (wr w b ((mm w b).set i v)) := pStore_one tyOk9 cellsOf9 hv hf hi
@[simp] theorem al22 : pAlloc P 22 w = some (pt (sz w) 0, nw w ([(Value.slice none 0 0)]) 22) := by rw [pAlloc_eq hasZero22, zeroL22]
@[simp] theorem ld22 (h : i < (mm w b).length) : pLoad P 22 (pt b i) w = some (gt (mm w b) i, w) := pLoad_scal tyOk22 isAggB22 h
@[simp] theorem st22 (hv : v.oneCell' = true) (hf : fz w b = false) (hi : i < (mm w b).length) : pStore P 22 (pt b i) v w = some (wr w b ((mm w b).set i v)) := pStore_one tyOk22 cellsOf22 hv hf hi
@[simp] theorem ia22 (h0 : 0 ≤ j) (h1 : j < n) : pIndexAddr P 22 (sl b o n c) (.int k j) w = some (pt b (o + j.toNat * 1), w) := by
  have := pIndexAddr_slice (w := w) (b := b) (o := o) (c := c) (k := k) sliceE22 tyOk25 h0 h1; rwa [cellsOf25] at this
@[simp] theorem len22 {ty : TypeId} {a : Option Addr} : pBuiltin P .len #[22] ty [.slice a n c] w = some (i64 n, w) := len_slice sliceE22
@[simp] theorem slL22 (h0 : 0 ≤ x) (h1 : x ≤ (n : Int)) (hnc : n ≤ c) : pSlice P 22 (sl b o n c) (some (.int k x)) none none w = some (.slice (some ⟨b, if c = x.toNat then o else o + x.toNat * 1, none⟩) (n - x.toNat) (c - x.toNat), w) := by
  have := pSlice_slice (P := P) (t := 22) (w := w) (b := b) (o := o) (lo := (some (.int k x))) (hi := none) sliceE22 tyOk25 rfl rfl h0 h1 (by simp [bHi]; omega) hnc; simpa [bLo, bHi] using this
@[simp] theorem slH22 {k' : IntKind} {y : Int} (h0 : 0 ≤ y) (h1 : y ≤ (c : Int)) (hnc : n ≤ c) : pSlice P 22 (sl b o n c) none (some (.int k' y)) none w = some (.slice (some ⟨b, o, none⟩) (y.toNat) (c), w) := by
  have := pSlice_slice (P := P) (t := 22) (w := w) (b := b) (o := o) (lo := none) (hi := (some (.int k' y))) sliceE22 tyOk25 rfl rfl (Int.le_refl 0) h0 h1 hnc; simpa [bLo, bHi] using this
@[simp] theorem slB22 {k' : IntKind} {y : Int} (h0 : 0 ≤ x) (h1 : x ≤ y) (h2 : y ≤ (c : Int)) (hnc : n ≤ c) : pSlice P 22 (sl b o n c) (some (.int k x)) (some (.int k' y)) none w = some (.slice (some ⟨b, if c = x.toNat then o else o + x.toNat * 1, none⟩) (y.toNat - x.toNat) (c - x.toNat), w) := by
  have := pSlice_slice (P := P) (t := 22) (w := w) (b := b) (o := o) (lo := (some (.int k x))) (hi := (some (.int k' y))) sliceE22 tyOk25 rfl rfl h0 h1 h2 hnc; simpa [bLo, bHi] using this
@[simp] theorem slN22  (hnc : n ≤ c) : pSlice P 22 (sl b o n c) none none none w = some (.slice (some ⟨b, o, none⟩) (n) (c), w) := by
  have := pSlice_slice (P := P) (t := 22) (w := w) (b := b) (o := o) (lo := none) (hi := none) sliceE22 tyOk25 rfl rfl (Int.le_refl 0) (by simp [bLo, bHi]) (by simp [bHi]; omega) hnc; simpa [bLo, bHi] using this
@[simp] theorem bsl22 {ps : List (Nat × Value)} (hbig : n * 1 ≤ 2 ^ 24) (hp : ∀ p ∈ ps, p.2.cells.size = 1 ∧ p.1 < n) : pBuildSlice P 22 n ps w = some (sl (sz w) 0 n n,
    nw w (ps.foldl (fun l p => splice l (p.1 * 1) p.2.cells.toList) (List.replicate n ([(Value.float FloatKind.f64 0)])).flatten) 25) := by
  have := pBuildSlice_eq (w := w) sliceE22 hasZero25 tyOk25 cellsOf25 (by rw [zeroL25]; rfl) hbig hp; rwa [zeroL25] at this
@[simp] theorem al23 : pAlloc P 23 w = some (pt (sz w) 0, nw w ([(Value.slice none 0 0)]) 23) := by rw [pAlloc_eq hasZero23, zeroL23]
@[simp] theorem ld23 (h : i < (mm w b).length) : pLoad P 23 (pt b i) w = some (gt (mm w b) i, w) := pLoad_scal tyOk23 isAggB23 h
@[simp] theorem st23 (hv : v.oneCell' = true) (hf : fz w b = false) (hi : i < (mm w b).length) : pStore P 23 (pt b i) v w = some (wr w b ((mm w b).set i v)) := pStore_one tyOk23 cellsOf23 hv hf hi
@[simp] theorem ia23 (h0 : 0 ≤ j) (h1 : j < n) : pIndexAddr P 23 (sl b o n c) (.int k j) w = some (pt b (o + j.toNat * 1), w) := by
  have := pIndexAddr_slice (w := w) (b := b) (o := o) (c := c) (k := k) sliceE23 tyOk5 h0 h1; rwa [cellsOf5] at this
@[simp] theorem len23 {ty : TypeId} {a : Option Addr} : pBuiltin P .len #[23] ty [.slice a n c] w = some (i64 n, w) := len_slice sliceE23
@[simp] theorem slL23 (h0 : 0 ≤ x) (h1 : x ≤ (n : Int)) (hnc : n ≤ c) : pSlice P 23 (sl b o n c) (some (.int k x)) none none w = some (.slice (some ⟨b, if c = x.toNat then o else o + x.toNat * 1, none⟩) (n - x.toNat) (c - x.toNat), w) := by
  have := pSlice_slice (P := P) (t := 23) (w := w) (b := b) (o := o) (lo := (some (.int k x))) (hi := none) sliceE23 tyOk5 rfl rfl h0 h1 (by simp [bHi]; omega) hnc; simpa [bLo, bHi] using this
@[simp] theorem slH23 {k' : IntKind} {y : Int} (h0 : 0 ≤ y) (h1 : y ≤ (c : Int)) (hnc : n ≤ c) : pSlice P 23 (sl b o n c) none (some (.int k' y)) none w = some (.slice (some ⟨b, o, none⟩) (y.toNat) (c), w) := by
  have := pSlice_slice (P := P) (t := 23) (w := w) (b := b) (o := o) (lo := none) (hi := (some (.int k' y))) sliceE23 tyOk5 rfl rfl (Int.le_refl 0) h0 h1 hnc; simpa [bLo, bHi] using this
@[simp] theorem slB23 {k' : IntKind} {y : Int} (h0 : 0 ≤ x) (h1 : x ≤ y) (h2 : y ≤ (c : Int)) (hnc : n ≤ c) : pSlice P 23 (sl b o n c) (some (.int k x)) (some (.int k' y)) none w = some (.slice (some ⟨b, if c = x.toNat then o else o + x.toNat * 1, none⟩) (y.toNat - x.toNat) (c - x.toNat), w) := by
  have := pSlice_slice (P := P) (t := 23) (w := w) (b := b) (o := o) (lo := (some (.int k x))) (hi := (some (.int k' y))) sliceE23 tyOk5 rfl rfl h0 h1 h2 hnc; simpa [bLo, bHi] using this
@[simp] theorem slN23  (hnc : n ≤ c) : pSlice P 23 (sl b o n c) none none none w = some (.slice (some ⟨b, o, none⟩) (n) (c), w) := by
  have := pSlice_slice (P := P) (t := 23) (w := w) (b := b) (o := o) (lo := none) (hi := none) sliceE23 tyOk5 rfl rfl (Int.le_refl 0) (by simp [bLo, bHi]) (by simp [bHi]; omega) hnc; simpa [bLo, bHi] using this
@[simp] theorem bsl23 {ps : List (Nat × Value)} (hbig : n * 1 ≤ 2 ^ 24) (hp : ∀ p ∈ ps, p.2.cells.size = 1 ∧ p.1 < n) : pBuildSlice P 23 n ps w = some (sl (sz w) 0 n n,
    nw w (ps.foldl (fun l p => splice l (p.1 * 1) p.2.cells.toList) (List.replicate n ([(Value.int IntKind.u8 0)])).flatten) 5) := by
  have := pBuildSlice_eq (w := w) sliceE23 hasZero5 tyOk5 cellsOf5 (by rw [zeroL5]; rfl) hbig hp; rwa [zeroL5] at this
@[simp] theorem cvs23 : pConv P 23 23 (sl b o n c) w = some (sl b o n c, mkS w b) := conv_same sliceE23 intK5
@[simp] theorem al25 : pAlloc P 25 w = some (pt (sz w) 0, nw w ([(Value.float FloatKind.f64 0)]) 25) := by rw [pAlloc_eq hasZero25, zeroL25]
@[simp] theorem ld25 (h : i < (mm w b).length) : pLoad P 25 (pt b i) w = some (gt (mm w b) i, w) := pLoad_scal tyOk25 isAggB25 h
@[simp] theorem st25 (hv : v.oneCell' = true) (hf : fz w b = false) (hi : i < (mm w b).length) : pStore P 25 (pt b i) v w = some (wr w b ((mm w b).set i v)) := pStore_one tyOk25 cellsOf25 hv hf hi
@[simp] theorem al26 : pAlloc P 26 w = some (pt (sz w) 0, nw w ([(Value.int IntKind.u64 0)]) 26) := by rw [pAlloc_eq hasZero26, zeroL26]
@[simp] theorem ld26 (h : i < (mm w b).length) : pLoad P 26 (pt b i) w = some (gt (mm w b) i, w) := pLoad_scal tyOk26 isAggB26 h
@[simp] theorem st26 (hv : v.oneCell' = true) (hf : fz w b = false) (hi : i < (mm w b).length) : pStore P 26 (pt b i) v w = some (wr w b ((mm w b).set i v)) := pStore_one tyOk26 cellsOf26 hv hf hi
@[simp] theorem cv26 {s : TypeId} (hs : tyOk P s = true) : pConv P s 26 (.int k x) w = some (.int .u64 (IntKind.wrap .u64 x), w) := pConv_int hs intK26
@[simp] theorem al28 : pAlloc P 28 w = some (pt (sz w) 0, nw w ([(Value.int IntKind.u8 0), (Value.int IntKind.u64 0), (Value.int IntKind.i64 0), (Value.float FloatKind.f64 0), (Value.string ByteArray.empty), (Value.bool false)]) 28) := by rw [pAlloc_eq hasZero28, zeroL28]
@[simp] theorem ld28 (h : i + 6 ≤ (mm w b).length) : pLoad P 28 (pt b i) w = some (.agg (((mm w b).drop i).take 6).toArray, w) := by
  have := pLoad_agg (w := w) (b := b) (i := i) tyOk28 isAggB28 (by rw [cellsOf28]; exact h); rwa [cellsOf28] at this
@[simp] theorem st28 (hs : a.size = 6) (hv : ∀ v ∈ a.toList, v.oneCell' = true) (hf : fz w b = false) (hi : i + 6 ≤ (mm w b).length) : pStore P 28 (pt b i) (.agg a) w = some (wr w b (splice (mm w b) i a.toList)) :=
  pStore_agg tyOk28 (by rw [cellsOf28, hs]) hv hf (by rw [hs]; exact hi)
@[simp] theorem bf28 {ps : List (Nat × Value)} (hp : ∀ p ∈ ps, p.1 < 6 ∧ p.2.oneCell' = true) : pBuild P 28 ps w = some (.agg (ps.foldl (fun l p => l.set p.1 p.2) ([(Value.int IntKind.u8 0), (Value.int IntKind.u64 0), (Value.int IntKind.i64 0), (Value.float FloatKind.f64 0), (Value.string ByteArray.empty), (Value.bool false)])).toArray, w) := by
  have := pBuild_flat (w := w) (ps := ps) hasZero28 (by kernel_rfl) (by kernel_rfl) (by rw [zeroL28]; exact hp); rwa [zeroL28] at this
@[simp] theorem fa28n0 : pFieldAddr P 28 (pt b i) 0 w = some (pt b (i + 0), w) := pFieldAddr_eq field28n0 tyOk5 (by rw [cellsOf5]; rfl)
@[simp] theorem fi28n0 (h : 0 < a.size) : pField P 28 (.agg a) 0 w = some (gt a.toList 0, w) := pField_scal field28n0 tyOk5 isAggB5 h
@[simp] theorem fa28n1 : pFieldAddr P 28 (pt b i) 1 w = some (pt b (i + 1), w) := pFieldAddr_eq field28n1 tyOk26 (by rw [cellsOf26]; rfl)
@[simp] theorem fi28n1 (h : 1 < a.size) : pField P 28 (.agg a) 1 w = some (gt a.toList 1, w) := pField_scal field28n1 tyOk26 isAggB26 h
@[simp] theorem fa28n2 : pFieldAddr P 28 (pt b i) 2 w = some (pt b (i + 2), w) := pFieldAddr_eq field28n2 tyOk2 (by rw [cellsOf2]; rfl)
@[simp] theorem fi28n2 (h : 2 < a.size) : pField P 28 (.agg a) 2 w = some (gt a.toList 2, w) := pField_scal field28n2 tyOk2 isAggB2 h
@[simp] theorem fa28n3 : pFieldAddr P 28 (pt b i) 3 w = some (pt b (i + 3), w) := pFieldAddr_eq field28n3 tyOk25 (by rw [cellsOf25]; rfl)
@[simp] theorem fi28n3 (h : 3 < a.size) : pField P 28 (.agg a) 3 w = some (gt a.toList 3, w) := pField_scal field28n3 tyOk25 isAggB25 h
@[simp] theorem fa28n4 : pFieldAddr P 28 (pt b i) 4 w = some (pt b (i + 4), w) := pFieldAddr_eq field28n4 tyOk9 (by rw [cellsOf9]; rfl)
@[simp] theorem fi28n4 (h : 4 < a.size) : pField P 28 (.agg a) 4 w = some (gt a.toList 4, w) := pField_scal field28n4 tyOk9 isAggB9 h
@[simp] theorem fa28n5 : pFieldAddr P 28 (pt b i) 5 w = some (pt b (i + 5), w) := pFieldAddr_eq field28n5 tyOk4 (by rw [cellsOf4]; rfl)
@[simp] theorem fi28n5 (h : 5 < a.size) : pField P 28 (.agg a) 5 w = some (gt a.toList 5, w) := pField_scal field28n5 tyOk4 isAggB4 h
@[simp] theorem al30 : pAlloc P 30 w = some (pt (sz w) 0, nw w ([(Value.slice none 0 0)]) 30) := by rw [pAlloc_eq hasZero30, zeroL30]
@[simp] theorem ld30 (h : i < (mm w b).length) : pLoad P 30 (pt b i) w = some (gt (mm w b) i, w) := pLoad_scal tyOk30 isAggB30 h
@[simp] theorem st30 (hv : v.oneCell' = true) (hf : fz w b = false) (hi : i < (mm w b).length) : pStore P 30 (pt b i) v w = some (wr w b ((mm w b).set i v)) := pStore_one tyOk30 cellsOf30 hv hf hi
@[simp] theorem ia30 (h0 : 0 ≤ j) (h1 : j < n) : pIndexAddr P 30 (sl b o n c) (.int k j) w = some (pt b (o + j.toNat * 1), w) := by
  have := pIndexAddr_slice (w := w) (b := b) (o := o) (c := c) (k := k) sliceE30 tyOk9 h0 h1; rwa [cellsOf9] at this
@[simp] theorem len30 {ty : TypeId} {a : Option Addr} : pBuiltin P .len #[30] ty [.slice a n c] w = some (i64 n, w) := len_slice sliceE30
@[simp] theorem slL30 (h0 : 0 ≤ x) (h1 : x ≤ (n : Int)) (hnc : n ≤ c) : pSlice P 30 (sl b o n c) (some (.int k x)) none none w = some (.slice (some ⟨b, if c = x.toNat then o else o + x.toNat * 1, none⟩) (n - x.toNat) (c - x.toNat), w) := by
  have := pSlice_slice (P := P) (t := 30) (w := w) (b := b) (o := o) (lo := (some (.int k x))) (hi := none) sliceE30 tyOk9 rfl rfl h0 h1 (by simp [bHi]; omega) hnc; simpa [bLo, bHi] using this
@[simp] theorem slH30 {k' : IntKind} {y : Int} (h0 : 0 ≤ y) (h1 : y ≤ (c : Int)) (hnc : n ≤ c) : pSlice P 30 (sl b o n c) none (some (.int k' y)) none w = some (.slice (some ⟨b, o, none⟩) (y.toNat) (c), w) := by
  have := pSlice_slice (P := P) (t := 30) (w := w) (b := b) (o := o) (lo := none) (hi := (some (.int k' y))) sliceE30 tyOk9 rfl rfl (Int.le_refl 0) h0 h1 hnc; simpa [bLo, bHi] using this
@[simp] theorem slB30 {k' : IntKind} {y : Int} (h0 : 0 ≤ x) (h1 : x ≤ y) (h2 : y ≤ (c : Int)) (hnc : n ≤ c) : pSlice P 30 (sl b o n c) (some (.int k x)) (some (.int k' y)) none w = some (.slice (some ⟨b, if c = x.toNat then o else o + x.toNat * 1, none⟩) (y.toNat - x.toNat) (c - x.toNat), w) := by
  have := pSlice_slice (P := P) (t := 30) (w := w) (b := b) (o := o) (lo := (some (.int k x))) (hi := (some (.int k' y))) sliceE30 tyOk9 rfl rfl h0 h1 h2 hnc; simpa [bLo, bHi] using this
@[simp] theorem slN30  (hnc : n ≤ c) : pSlice P 30 (sl b o n c) none none none w = some (.slice (some ⟨b, o, none⟩) (n) (c), w) := by
  have := pSlice_slice (P := P) (t := 30) (w := w) (b := b) (o := o) (lo := none) (hi := none) sliceE30 tyOk9 rfl rfl (Int.le_refl 0) (by simp [bLo, bHi]) (by simp [bHi]; omega) hnc; simpa [bLo, bHi] using this
@[simp] theorem bsl30 {ps : List (Nat × Value)} (hbig : n * 1 ≤ 2 ^ 24) (hp : ∀ p ∈ ps, p.2.cells.size = 1 ∧ p.1 < n) : pBuildSlice P 30 n ps w = some (sl (sz w) 0 n n,
    nw w (ps.foldl (fun l p => splice l (p.1 * 1) p.2.cells.toList) (List.replicate n ([(Value.string ByteArray.empty)])).flatten) 9) := by
  have := pBuildSlice_eq (w := w) sliceE30 hasZero9 tyOk9 cellsOf9 (by rw [zeroL9]; rfl) hbig hp; rwa [zeroL9] at this
@[simp] theorem al32 : pAlloc P 32 w = some (pt (sz w) 0, nw w ([(Value.slice none 0 0)]) 32) := by rw [pAlloc_eq hasZero32, zeroL32]
@[simp] theorem ld32 (h : i < (mm w b).length) : pLoad P 32 (pt b i) w = some (gt (mm w b) i, w) := pLoad_scal tyOk32 isAggB32 h
@[simp] theorem st32 (hv : v.oneCell' = true) (hf : fz w b = false) (hi : i < (mm w b).length) : pStore P 32 (pt b i) v w = some (wr w b ((mm w b).set i v)) := pStore_one tyOk32 cellsOf32 hv hf hi
@[simp] theorem ia32 (h0 : 0 ≤ j) (h1 : j < n) : pIndexAddr P 32 (sl b o n c) (.int k j) w = some (pt b (o + j.toNat * 6), w) := by
  have := pIndexAddr_slice (w := w) (b := b) (o := o) (c := c) (k := k) sliceE32 tyOk28 h0 h1; rwa [cellsOf28] at this
@[simp] theorem len32 {ty : TypeId} {a : Option Addr} : pBuiltin P .len #[32] ty [.slice a n c] w = some (i64 n, w) := len_slice sliceE32
@[simp] theorem slL32 (h0 : 0 ≤ x) (h1 : x ≤ (n : Int)) (hnc : n ≤ c) : pSlice P 32 (sl b o n c) (some (.int k x)) none none w = some (.slice (some ⟨b, if c = x.toNat then o else o + x.toNat * 6, none⟩) (n - x.toNat) (c - x.toNat), w) := by
  have := pSlice_slice (P := P) (t := 32) (w := w) (b := b) (o := o) (lo := (some (.int k x))) (hi := none) sliceE32 tyOk28 rfl rfl h0 h1 (by simp [bHi]; omega) hnc; simpa [bLo, bHi] using this
@[simp] theorem slH32 {k' : IntKind} {y : Int} (h0 : 0 ≤ y) (h1 : y ≤ (c : Int)) (hnc : n ≤ c) : pSlice P 32 (sl b o n c) none (some (.int k' y)) none w = some (.slice (some ⟨b, o, none⟩) (y.toNat) (c), w) := by
  have := pSlice_slice (P := P) (t := 32) (w := w) (b := b) (o := o) (lo := none) (hi := (some (.int k' y))) sliceE32 tyOk28 rfl rfl (Int.le_refl 0) h0 h1 hnc; simpa [bLo, bHi] using this
@[simp] theorem slB32 {k' : IntKind} {y : Int} (h0 : 0 ≤ x) (h1 : x ≤ y) (h2 : y ≤ (c : Int)) (hnc : n ≤ c) : pSlice P 32 (sl b o n c) (some (.int k x)) (some (.int k' y)) none w = some (.slice (some ⟨b, if c = x.toNat then o else o + x.toNat * 6, none⟩) (y.toNat - x.toNat) (c - x.toNat), w) := by
  have := pSlice_slice (P := P) (t := 32) (w := w) (b := b) (o := o) (lo := (some (.int k x))) (hi := (some (.int k' y))) sliceE32 tyOk28 rfl rfl h0 h1 h2 hnc; simpa [bLo, bHi] using this
@[simp] theorem slN32  (hnc : n ≤ c) : pSlice P 32 (sl b o n c) none none none w = some (.slice (some ⟨b, o, none⟩) (n) (c), w) := by
  have := pSlice_slice (P := P) (t := 32) (w := w) (b := b) (o := o) (lo := none) (hi := none) sliceE32 tyOk28 rfl rfl (Int.le_refl 0) (by simp [bLo, bHi]) (by simp [bHi]; omega) hnc; simpa [bLo, bHi] using this
@[simp] theorem bsl32 {ps : List (Nat × Value)} (hbig : n * 6 ≤ 2 ^ 24) (hp : ∀ p ∈ ps, p.2.cells.size = 6 ∧ p.1 < n) : pBuildSlice P 32 n ps w = some (sl (sz w) 0 n n,
    nw w (ps.foldl (fun l p => splice l (p.1 * 6) p.2.cells.toList) (List.replicate n ([(Value.int IntKind.u8 0), (Value.int IntKind.u64 0), (Value.int IntKind.i64 0), (Value.float FloatKind.f64 0), (Value.string ByteArray.empty), (Value.bool false)])).flatten) 28) := by
  have := pBuildSlice_eq (w := w) sliceE32 hasZero28 tyOk28 cellsOf28 (by rw [zeroL28]; rfl) hbig hp; rwa [zeroL28] at this
@[simp] theorem al33 : pAlloc P 33 w = some (pt (sz w) 0, nw w ([(Value.int IntKind.i64 0)]) 33) := by rw [pAlloc_eq hasZero33, zeroL33]
@[simp] theorem ld33 (h : i < (mm w b).length) : pLoad P 33 (pt b i) w = some (gt (mm w b) i, w) := pLoad_scal tyOk33 isAggB33 h
@[simp] theorem st33 (hv : v.oneCell' = true) (hf : fz w b = false) (hi : i < (mm w b).length) : pStore P 33 (pt b i) v w = some (wr w b ((mm w b).set i v)) := pStore_one tyOk33 cellsOf33 hv hf hi
@[simp] theorem cv33 {s : TypeId} (hs : tyOk P s = true) : pConv P s 33 (.int k x) w = some (.int .i64 (IntKind.wrap .i64 x), w) := pConv_int hs intK33
@[simp] theorem al35 : pAlloc P 35 w = some (pt (sz w) 0, nw w ([(Value.int IntKind.i64 0), (Value.int IntKind.i64 0)]) 35) := by rw [pAlloc_eq hasZero35, zeroL35]
@[simp] theorem ld35 (h : i + 2 ≤ (mm w b).length) : pLoad P 35 (pt b i) w = some (.agg (((mm w b).drop i).take 2).toArray, w) := by
  have := pLoad_agg (w := w) (b := b) (i := i) tyOk35 isAggB35 (by rw [cellsOf35]; exact h); rwa [cellsOf35] at this
@[simp] theorem st35 (hs : a.size = 2) (hv : ∀ v ∈ a.toList, v.oneCell' = true) (hf : fz w b = false) (hi : i + 2 ≤ (mm w b).length) : pStore P 35 (pt b i) (.agg a) w = some (wr w b (splice (mm w b) i a.toList)) :=
  pStore_agg tyOk35 (by rw [cellsOf35, hs]) hv hf (by rw [hs]; exact hi)
@[simp] theorem bf35 {ps : List (Nat × Value)} (hp : ∀ p ∈ ps, p.1 < 2 ∧ p.2.oneCell' = true) : pBuild P 35 ps w = some (.agg (ps.foldl (fun l p => l.set p.1 p.2) ([(Value.int IntKind.i64 0), (Value.int IntKind.i64 0)])).toArray, w) := by
  have := pBuild_flat (w := w) (ps := ps) hasZero35 (by kernel_rfl) (by kernel_rfl) (by rw [zeroL35]; exact hp); rwa [zeroL35] at this
@[simp] theorem fa35n0 : pFieldAddr P 35 (pt b i) 0 w = some (pt b (i + 0), w) := pFieldAddr_eq field35n0 tyOk33 (by rw [cellsOf33]; rfl)
@[simp] theorem fi35n0 (h : 0 < a.size) : pField P 35 (.agg a) 0 w = some (gt a.toList 0, w) := pField_scal field35n0 tyOk33 isAggB33 h
@[simp] theorem fa35n1 : pFieldAddr P 35 (pt b i) 1 w = some (pt b (i + 1), w) := pFieldAddr_eq field35n1 tyOk3 (by rw [cellsOf3]; rfl)
@[simp] theorem fi35n1 (h : 1 < a.size) : pField P 35 (.agg a) 1 w = some (gt a.toList 1, w) := pField_scal field35n1 tyOk3 isAggB3 h
@[simp] theorem al41 : pAlloc P 41 w = some (pt (sz w) 0, nw w ([(Value.slice none 0 0)]) 41) := by rw [pAlloc_eq hasZero41, zeroL41]
@[simp] theorem ld41 (h : i + 1 ≤ (mm w b).length) : pLoad P 41 (pt b i) w = some (.agg (((mm w b).drop i).take 1).toArray, w) := by
  have := pLoad_agg (w := w) (b := b) (i := i) tyOk41 isAggB41 (by rw [cellsOf41]; exact h); rwa [cellsOf41] at this
@[simp] theorem st41 (hs : a.size = 1) (hv : ∀ v ∈ a.toList, v.oneCell' = true) (hf : fz w b = false) (hi : i + 1 ≤ (mm w b).length) : pStore P 41 (pt b i) (.agg a) w = some (wr w b (splice (mm w b) i a.toList)) :=
  pStore_agg tyOk41 (by rw [cellsOf41, hs]) hv hf (by rw [hs]; exact hi)
@[simp] theorem bf41 {ps : List (Nat × Value)} (hp : ∀ p ∈ ps, p.1 < 1 ∧ p.2.oneCell' = true) : pBuild P 41 ps w = some (.agg (ps.foldl (fun l p => l.set p.1 p.2) ([(Value.slice none 0 0)])).toArray, w) := by
  have := pBuild_flat (w := w) (ps := ps) hasZero41 (by kernel_rfl) (by kernel_rfl) (by rw [zeroL41]; exact hp); rwa [zeroL41] at this
@[simp] theorem fa41n0 : pFieldAddr P 41 (pt b i) 0 w = some (pt b (i + 0), w) := pFieldAddr_eq field41n0 tyOk23 (by rw [cellsOf23]; rfl)
@[simp] theorem fi41n0 (h : 0 < a.size) : pField P 41 (.agg a) 0 w = some (gt a.toList 0, w) := pField_scal field41n0 tyOk23 isAggB23 h
@[simp] theorem al53 : pAlloc P 53 w = some (pt (sz w) 0, nw w ([(Value.pointer none)]) 53) := by rw [pAlloc_eq hasZero53, zeroL53]
@[simp] theorem ld53 (h : i < (mm w b).length) : pLoad P 53 (pt b i) w = some (gt (mm w b) i, w) := pLoad_scal tyOk53 isAggB53 h
@[simp] theorem st53 (hv : v.oneCell' = true) (hf : fz w b = false) (hi : i < (mm w b).length) : pStore P 53 (pt b i) v w = some (wr w b ((mm w b).set i v)) := pStore_one tyOk53 cellsOf53 hv hf hi
@[simp] theorem eqn53 {lit : Bool} {q : Option Addr} : pBin P .eql 53 lit (.pointer q) (.pointer none) w = some (.bool q.isNone, w) := eqNil und53
@[simp] theorem nen53 {lit : Bool} {q : Option Addr} : pBin P .neq 53 lit (.pointer q) (.pointer none) w = some (.bool q.isSome, w) := neNil und53
@[simp] theorem al58 : pAlloc P 58 w = some (pt (sz w) 0, nw w ([(Value.pointer none)]) 58) := by rw [pAlloc_eq hasZero58, zeroL58]
@[simp] theorem ld58 (h : i < (mm w b).length) : pLoad P 58 (pt b i) w = some (gt (mm w b) i, w) := pLoad_scal tyOk58 isAggB58 h
@[simp] theorem st58 (hv : v.oneCell' = true) (hf : fz w b = false) (hi : i < (mm w b).length) : pStore P 58 (pt b i) v w = some (wr w b ((mm w b).set i v)) := pStore_one tyOk58 cellsOf58 hv hf hi
@[simp] theorem eqn58 {lit : Bool} {q : Option Addr} : pBin P .eql 58 lit (.pointer q) (.pointer none) w = some (.bool q.isNone, w) := eqNil und58
@[simp] theorem nen58 {lit : Bool} {q : Option Addr} : pBin P .neq 58 lit (.pointer q) (.pointer none) w = some (.bool q.isSome, w) := neNil und58
@[simp] theorem al74 : pAlloc P 74 w = some (pt (sz w) 0, nw w ([(Value.slice none 0 0), (Value.int IntKind.i64 0)]) 74) := by rw [pAlloc_eq hasZero74, zeroL74]
@[simp] theorem ld74 (h : i + 2 ≤ (mm w b).length) : pLoad P 74 (pt b i) w = some (.agg (((mm w b).drop i).take 2).toArray, w) := by
  have := pLoad_agg (w := w) (b := b) (i := i) tyOk74 isAggB74 (by rw [cellsOf74]; exact h); rwa [cellsOf74] at this
@[simp] theorem st74 (hs : a.size = 2) (hv : ∀ v ∈ a.toList, v.oneCell' = true) (hf : fz w b = false) (hi : i + 2 ≤ (mm w b).length) : pStore P 74 (pt b i) (.agg a) w = some (wr w b (splice (mm w b) i a.toList)) :=
  pStore_agg tyOk74 (by rw [cellsOf74, hs]) hv hf (by rw [hs]; exact hi)
@[simp] theorem bf74 {ps : List (Nat × Value)} (hp : ∀ p ∈ ps, p.1 < 2 ∧ p.2.oneCell' = true) : pBuild P 74 ps w = some (.agg (ps.foldl (fun l p => l.set p.1 p.2) ([(Value.slice none 0 0), (Value.int IntKind.i64 0)])).toArray, w) := by
  have := pBuild_flat (w := w) (ps := ps) hasZero74 (by kernel_rfl) (by kernel_rfl) (by rw [zeroL74]; exact hp); rwa [zeroL74] at this
@[simp] theorem fa74n0 : pFieldAddr P 74 (pt b i) 0 w = some (pt b (i + 0), w) := pFieldAddr_eq field74n0 tyOk23 (by rw [cellsOf23]; rfl)
@[simp] theorem fi74n0 (h : 0 < a.size) : pField P 74 (.agg a) 0 w = some (gt a.toList 0, w) := pField_scal field74n0 tyOk23 isAggB23 h
@[simp] theorem fa74n1 : pFieldAddr P 74 (pt b i) 1 w = some (pt b (i + 1), w) := pFieldAddr_eq field74n1 tyOk3 (by rw [cellsOf3]; rfl)
@[simp] theorem fi74n1 (h : 1 < a.size) : pField P 74 (.agg a) 1 w = some (gt a.toList 1, w) := pField_scal field74n1 tyOk3 isAggB3 h
end
end Go.Proofs.Ytieejbkbdfccdaa
