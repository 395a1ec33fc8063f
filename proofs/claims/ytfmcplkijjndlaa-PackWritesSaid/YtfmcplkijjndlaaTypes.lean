/- Facts on the program's types, printed by types.py. -/
import Derived.Test.YtfmcplkijjndlaaPrims3
import Derived.Test.YtfmcplkijjndlaaBase
set_option linter.unusedVariables false
namespace Go.Proofs.Ytfmcplkijjndlaa
open Go

section
variable {w : World} {b i o n c : Nat} {k : IntKind} {x j : Int} {v : Value} {a : Array Value} {lo hi : Option Value}

@[simp] theorem tyOk2 : tyOk P 2 = true := by kernel_rfl
@[simp] theorem isAggB2 : isAggB P 2 = false := by kernel_rfl
@[simp] theorem cellsOf2 : P.cellsOf 2 = 1 := by kernel_rfl
@[simp] theorem bytesOf2 : P.bytesOf 2 = 8 := by kernel_rfl
@[simp] theorem hasZero2 : hasZero P 2 = true := by kernel_rfl
@[simp] theorem zeroL2 : zeroL P 2 = [(Value.int IntKind.i64 0)] := by kernel_rfl
@[simp] theorem intK2 : intK P 2 = some IntKind.i64 := by kernel_rfl
@[simp] theorem und2 : P.underlying 2 = some (.int .i64) := by kernel_rfl
@[simp] theorem tyOk3 : tyOk P 3 = true := by kernel_rfl
@[simp] theorem isAggB3 : isAggB P 3 = false := by kernel_rfl
@[simp] theorem cellsOf3 : P.cellsOf 3 = 1 := by kernel_rfl
@[simp] theorem bytesOf3 : P.bytesOf 3 = 8 := by kernel_rfl
@[simp] theorem hasZero3 : hasZero P 3 = true := by kernel_rfl
@[simp] theorem zeroL3 : zeroL P 3 = [(Value.int IntKind.i64 0)] := by kernel_rfl
@[simp] theorem intK3 : intK P 3 = some IntKind.i64 := by kernel_rfl
@[simp] theorem und3 : P.underlying 3 = some (.int .i64) := by kernel_rfl
@[simp] theorem tyOk4 : tyOk P 4 = true := by kernel_rfl
@[simp] theorem isAggB4 : isAggB P 4 = false := by kernel_rfl
@[simp] theorem cellsOf4 : P.cellsOf 4 = 1 := by kernel_rfl
@[simp] theorem bytesOf4 : P.bytesOf 4 = 1 := by kernel_rfl
@[simp] theorem hasZero4 : hasZero P 4 = true := by kernel_rfl
@[simp] theorem zeroL4 : zeroL P 4 = [(Value.bool false)] := by kernel_rfl
@[simp] theorem und4 : P.underlying 4 = some .bool := by kernel_rfl
@[simp] theorem tyOk5 : tyOk P 5 = true := by kernel_rfl
@[simp] theorem isAggB5 : isAggB P 5 = false := by kernel_rfl
@[simp] theorem cellsOf5 : P.cellsOf 5 = 1 := by kernel_rfl
@[simp] theorem bytesOf5 : P.bytesOf 5 = 1 := by kernel_rfl
@[simp] theorem hasZero5 : hasZero P 5 = true := by kernel_rfl
@[simp] theorem zeroL5 : zeroL P 5 = [(Value.int IntKind.u8 0)] := by kernel_rfl
@[simp] theorem intK5 : intK P 5 = some IntKind.u8 := by kernel_rfl
@[simp] theorem und5 : P.underlying 5 = some (.int .u8) := by kernel_rfl
@[simp] theorem tyOk9 : tyOk P 9 = true := by kernel_rfl
@[simp] theorem isAggB9 : isAggB P 9 = false := by kernel_rfl
@[simp] theorem cellsOf9 : P.cellsOf 9 = 1 := by kernel_rfl
@[simp] theorem bytesOf9 : P.bytesOf 9 = 16 := by kernel_rfl
@[simp] theorem hasZero9 : hasZero P 9 = true := by kernel_rfl
@[simp] theorem zeroL9 : zeroL P 9 = [(Value.string ByteArray.empty)] := by kernel_rfl
@[simp] theorem und9 : P.underlying 9 = some .string := by kernel_rfl
@[simp] theorem tyOk21 : tyOk P 21 = true := by kernel_rfl
@[simp] theorem isAggB21 : isAggB P 21 = false := by kernel_rfl
@[simp] theorem cellsOf21 : P.cellsOf 21 = 1 := by kernel_rfl
@[simp] theorem bytesOf21 : P.bytesOf 21 = 4 := by kernel_rfl
@[simp] theorem hasZero21 : hasZero P 21 = true := by kernel_rfl
@[simp] theorem zeroL21 : zeroL P 21 = [(Value.int IntKind.i32 0)] := by kernel_rfl
@[simp] theorem intK21 : intK P 21 = some IntKind.i32 := by kernel_rfl
@[simp] theorem und21 : P.underlying 21 = some (.int .i32) := by kernel_rfl
@[simp] theorem tyOk22 : tyOk P 22 = true := by kernel_rfl
@[simp] theorem isAggB22 : isAggB P 22 = false := by kernel_rfl
@[simp] theorem cellsOf22 : P.cellsOf 22 = 1 := by kernel_rfl
@[simp] theorem bytesOf22 : P.bytesOf 22 = 8 := by kernel_rfl
@[simp] theorem hasZero22 : hasZero P 22 = true := by kernel_rfl
@[simp] theorem zeroL22 : zeroL P 22 = [(Value.float FloatKind.f64 0)] := by kernel_rfl
@[simp] theorem tyOk25 : tyOk P 25 = true := by kernel_rfl
@[simp] theorem isAggB25 : isAggB P 25 = false := by kernel_rfl
@[simp] theorem cellsOf25 : P.cellsOf 25 = 1 := by kernel_rfl
@[simp] theorem bytesOf25 : P.bytesOf 25 = 8 := by kernel_rfl
@[simp] theorem hasZero25 : hasZero P 25 = true := by kernel_rfl
@[simp] theorem zeroL25 : zeroL P 25 = [(Value.int IntKind.u64 0)] := by kernel_rfl
@[simp] theorem intK25 : intK P 25 = some IntKind.u64 := by kernel_rfl
@[simp] theorem und25 : P.underlying 25 = some (.int .u64) := by kernel_rfl
@[simp] theorem tyOk37 : tyOk P 37 = true := by kernel_rfl
@[simp] theorem isAggB37 : isAggB P 37 = false := by kernel_rfl
@[simp] theorem cellsOf37 : P.cellsOf 37 = 1 := by kernel_rfl
@[simp] theorem bytesOf37 : P.bytesOf 37 = 24 := by kernel_rfl
@[simp] theorem hasZero37 : hasZero P 37 = true := by kernel_rfl
@[simp] theorem zeroL37 : zeroL P 37 = [(Value.slice none 0 0)] := by kernel_rfl
@[simp] theorem sliceE37 : sliceE P 37 = some 60 := by kernel_rfl
@[simp] theorem tyOk40 : tyOk P 40 = true := by kernel_rfl
@[simp] theorem isAggB40 : isAggB P 40 = false := by kernel_rfl
@[simp] theorem cellsOf40 : P.cellsOf 40 = 1 := by kernel_rfl
@[simp] theorem bytesOf40 : P.bytesOf 40 = 24 := by kernel_rfl
@[simp] theorem hasZero40 : hasZero P 40 = true := by kernel_rfl
@[simp] theorem zeroL40 : zeroL P 40 = [(Value.slice none 0 0)] := by kernel_rfl
@[simp] theorem sliceE40 : sliceE P 40 = some 5 := by kernel_rfl
@[simp] theorem tyOk42 : tyOk P 42 = true := by kernel_rfl
@[simp] theorem isAggB42 : isAggB P 42 = false := by kernel_rfl
@[simp] theorem cellsOf42 : P.cellsOf 42 = 1 := by kernel_rfl
@[simp] theorem bytesOf42 : P.bytesOf 42 = 8 := by kernel_rfl
@[simp] theorem hasZero42 : hasZero P 42 = true := by kernel_rfl
@[simp] theorem zeroL42 : zeroL P 42 = [(Value.int IntKind.i64 0)] := by kernel_rfl
@[simp] theorem intK42 : intK P 42 = some IntKind.i64 := by kernel_rfl
@[simp] theorem und42 : P.underlying 42 = some (.int .i64) := by kernel_rfl
@[simp] theorem tyOk44 : tyOk P 44 = true := by kernel_rfl
@[simp] theorem isAggB44 : isAggB P 44 = true := by kernel_rfl
@[simp] theorem cellsOf44 : P.cellsOf 44 = 2 := by kernel_rfl
@[simp] theorem bytesOf44 : P.bytesOf 44 = 16 := by kernel_rfl
@[simp] theorem hasZero44 : hasZero P 44 = true := by kernel_rfl
@[simp] theorem zeroL44 : zeroL P 44 = [(Value.int IntKind.i64 0), (Value.int IntKind.i64 0)] := by kernel_rfl
@[simp] theorem eqg44 : P.eqGuardType P.depth 44 = false := by kernel_rfl
@[simp] theorem field44n0 : fieldB P 44 0 = some (0, 42) := by kernel_rfl
@[simp] theorem field44n1 : fieldB P 44 1 = some (1, 3) := by kernel_rfl
@[simp] theorem tyOk48 : tyOk P 48 = true := by kernel_rfl
@[simp] theorem isAggB48 : isAggB P 48 = false := by kernel_rfl
@[simp] theorem cellsOf48 : P.cellsOf 48 = 1 := by kernel_rfl
@[simp] theorem bytesOf48 : P.bytesOf 48 = 24 := by kernel_rfl
@[simp] theorem hasZero48 : hasZero P 48 = true := by kernel_rfl
@[simp] theorem zeroL48 : zeroL P 48 = [(Value.slice none 0 0)] := by kernel_rfl
@[simp] theorem sliceE48 : sliceE P 48 = some 75 := by kernel_rfl
@[simp] theorem tyOk58 : tyOk P 58 = true := by kernel_rfl
@[simp] theorem isAggB58 : isAggB P 58 = true := by kernel_rfl
@[simp] theorem cellsOf58 : P.cellsOf 58 = 1 := by kernel_rfl
@[simp] theorem bytesOf58 : P.bytesOf 58 = 24 := by kernel_rfl
@[simp] theorem hasZero58 : hasZero P 58 = true := by kernel_rfl
@[simp] theorem zeroL58 : zeroL P 58 = [(Value.slice none 0 0)] := by kernel_rfl
@[simp] theorem eqg58 : P.eqGuardType P.depth 58 = false := by kernel_rfl
@[simp] theorem field58n0 : fieldB P 58 0 = some (0, 40) := by kernel_rfl
@[simp] theorem tyOk60 : tyOk P 60 = true := by kernel_rfl
@[simp] theorem isAggB60 : isAggB P 60 = true := by kernel_rfl
@[simp] theorem cellsOf60 : P.cellsOf 60 = 6 := by kernel_rfl
@[simp] theorem bytesOf60 : P.bytesOf 60 = 56 := by kernel_rfl
@[simp] theorem hasZero60 : hasZero P 60 = true := by kernel_rfl
@[simp] theorem zeroL60 : zeroL P 60 = [(Value.int IntKind.u8 0), (Value.int IntKind.u64 0), (Value.int IntKind.i64 0), (Value.float FloatKind.f64 0), (Value.string ByteArray.empty), (Value.bool false)] := by kernel_rfl
@[simp] theorem eqg60 : P.eqGuardType P.depth 60 = false := by kernel_rfl
@[simp] theorem field60n0 : fieldB P 60 0 = some (0, 5) := by kernel_rfl
@[simp] theorem field60n1 : fieldB P 60 1 = some (1, 25) := by kernel_rfl
@[simp] theorem field60n2 : fieldB P 60 2 = some (2, 2) := by kernel_rfl
@[simp] theorem field60n3 : fieldB P 60 3 = some (3, 22) := by kernel_rfl
@[simp] theorem field60n4 : fieldB P 60 4 = some (4, 9) := by kernel_rfl
@[simp] theorem field60n5 : fieldB P 60 5 = some (5, 4) := by kernel_rfl
@[simp] theorem tyOk68 : tyOk P 68 = true := by kernel_rfl
@[simp] theorem isAggB68 : isAggB P 68 = false := by kernel_rfl
@[simp] theorem cellsOf68 : P.cellsOf 68 = 1 := by kernel_rfl
@[simp] theorem bytesOf68 : P.bytesOf 68 = 24 := by kernel_rfl
@[simp] theorem hasZero68 : hasZero P 68 = true := by kernel_rfl
@[simp] theorem zeroL68 : zeroL P 68 = [(Value.slice none 0 0)] := by kernel_rfl
@[simp] theorem sliceE68 : sliceE P 68 = some 4 := by kernel_rfl
@[simp] theorem tyOk75 : tyOk P 75 = true := by kernel_rfl
@[simp] theorem isAggB75 : isAggB P 75 = true := by kernel_rfl
@[simp] theorem cellsOf75 : P.cellsOf 75 = 6 := by kernel_rfl
@[simp] theorem bytesOf75 : P.bytesOf 75 = 56 := by kernel_rfl
@[simp] theorem hasZero75 : hasZero P 75 = true := by kernel_rfl
@[simp] theorem zeroL75 : zeroL P 75 = [(Value.int IntKind.u8 0), (Value.int IntKind.u64 0), (Value.int IntKind.i64 0), (Value.int IntKind.u64 0), (Value.string ByteArray.empty), (Value.bool false)] := by kernel_rfl
@[simp] theorem eqg75 : P.eqGuardType P.depth 75 = false := by kernel_rfl
@[simp] theorem field75n0 : fieldB P 75 0 = some (0, 5) := by kernel_rfl
@[simp] theorem field75n1 : fieldB P 75 1 = some (1, 25) := by kernel_rfl
@[simp] theorem field75n2 : fieldB P 75 2 = some (2, 2) := by kernel_rfl
@[simp] theorem field75n3 : fieldB P 75 3 = some (3, 25) := by kernel_rfl
@[simp] theorem field75n4 : fieldB P 75 4 = some (4, 9) := by kernel_rfl
@[simp] theorem field75n5 : fieldB P 75 5 = some (5, 4) := by kernel_rfl
@[simp] theorem tyOk78 : tyOk P 78 = true := by kernel_rfl
@[simp] theorem isAggB78 : isAggB P 78 = false := by kernel_rfl
@[simp] theorem cellsOf78 : P.cellsOf 78 = 1 := by kernel_rfl
@[simp] theorem bytesOf78 : P.bytesOf 78 = 8 := by kernel_rfl
@[simp] theorem hasZero78 : hasZero P 78 = true := by kernel_rfl
@[simp] theorem zeroL78 : zeroL P 78 = [(Value.pointer none)] := by kernel_rfl
@[simp] theorem und78 : P.underlying 78 = some (.pointer 89) := by kernel_rfl
@[simp] theorem tyOk84 : tyOk P 84 = true := by kernel_rfl
@[simp] theorem isAggB84 : isAggB P 84 = false := by kernel_rfl
@[simp] theorem cellsOf84 : P.cellsOf 84 = 1 := by kernel_rfl
@[simp] theorem bytesOf84 : P.bytesOf 84 = 8 := by kernel_rfl
@[simp] theorem hasZero84 : hasZero P 84 = true := by kernel_rfl
@[simp] theorem zeroL84 : zeroL P 84 = [(Value.pointer none)] := by kernel_rfl
@[simp] theorem und84 : P.underlying 84 = some (.pointer 58) := by kernel_rfl
@[simp] theorem tyOk89 : tyOk P 89 = true := by kernel_rfl
@[simp] theorem isAggB89 : isAggB P 89 = true := by kernel_rfl
@[simp] theorem cellsOf89 : P.cellsOf 89 = 2 := by kernel_rfl
@[simp] theorem bytesOf89 : P.bytesOf 89 = 32 := by kernel_rfl
@[simp] theorem hasZero89 : hasZero P 89 = true := by kernel_rfl
@[simp] theorem zeroL89 : zeroL P 89 = [(Value.slice none 0 0), (Value.int IntKind.i64 0)] := by kernel_rfl
@[simp] theorem eqg89 : P.eqGuardType P.depth 89 = false := by kernel_rfl
@[simp] theorem field89n0 : fieldB P 89 0 = some (0, 40) := by kernel_rfl
@[simp] theorem field89n1 : fieldB P 89 1 = some (1, 3) := by kernel_rfl
@[simp] theorem al2 : pAlloc P 2 w = some (pt (sz w) 0, nw w ([(Value.int IntKind.i64 0)]) 2) := by rw [pAlloc_eq hasZero2, zeroL2]
@[simp] theorem ld2 (h : i < (mm w b).length) : pLoad P 2 (pt b i) w = some (gt (mm w b) i, w) := pLoad_scal tyOk2 isAggB2 h
@[simp] theorem st2 (hv : v.oneCell' = true) (hf : fz w b = false) (hi : i < (mm w b).length) : pStore P 2 (pt b i) v w = some (wr w b ((mm w b).set i v)) := pStore_one tyOk2 cellsOf2 hv hf hi
@[simp] theorem cv2 {s : TypeId} (hs : tyOk P s = true) : pConv P s 2 (.int k x) w = some (.int .i64 (IntKind.wrap .i64 x), w) := pConv_int hs intK2
@[simp] theorem al3 : pAlloc P 3 w = some (pt (sz w) 0, nw w ([(Value.int IntKind.i64 0)]) 3) := by rw [pAlloc_eq hasZero3, zeroL3]
@[simp] theorem ld3 (h : i < (mm w b).length) : pLoad P 3 (pt b i) w = some (gt (mm w b) i, w) := pLoad_scal tyOk3 isAggB3 h
@[simp] theorem st3 (hv : v.oneCell' = true) (hf : fz w b = false) (hi : i < (mm w b).length) : pStore P 3 (pt b i) v w = some (wr w b ((mm w b).set i v)) := pStore_one tyOk3 cellsOf3 hv hf hi
@[simp] theorem cv3 {s : TypeId} (hs : tyOk P s = true) : pConv P s 3 (.int k x) w = some (.int .i64 (IntKind.wrap .i64 x), w) := pConv_int hs intK3
@[simp] theorem al4 : pAlloc P 4 w = some (pt (sz w) 0, nw w ([(Value.bool false)]) 4) := by rw [pAlloc_eq hasZero4, zeroL4]
@[simp] theorem ld4 (h : i < (mm w b).length) : pLoad P 4 (pt b i) w = some (gt (mm w b) i, w) := pLoad_scal tyOk4 isAggB4 h
@[simp] theorem st4 (hv : v.oneCell' = true) (hf : fz w b = false) (hi : i < (mm w b).length) : pStore P 4 (pt b i) v w = some (wr w b ((mm w b).set i v)) := pStore_one tyOk4 cellsOf4 hv hf hi
@[simp] theorem al5 : pAlloc P 5 w = some (pt (sz w) 0, nw w ([(Value.int IntKind.u8 0)]) 5) := by rw [pAlloc_eq hasZero5, zeroL5]
@[simp] theorem ld5 (h : i < (mm w b).length) : pLoad P 5 (pt b i) w = some (gt (mm w b) i, w) := pLoad_scal tyOk5 isAggB5 h
@[simp] theorem st5 (hv : v.oneCell' = true) (hf : fz w b = false) (hi : i < (mm w b).length) : pStore P 5 (pt b i) v w = some (wr w b ((mm w b).set i v)) := pStore_one tyOk5 cellsOf5 hv hf hi
@[simp] theorem cv5 {s : TypeId} (hs : tyOk P s = true) : pConv P s 5 (.int k x) w = some (.int .u8 (IntKind.wrap .u8 x), w) := pConv_int hs intK5
@[simp] theorem al9 : pAlloc P 9 w = some (pt (sz w) 0, nw w ([(Value.string ByteArray.empty)]) 9) := by rw [pAlloc_eq hasZero9, zeroL9]
@[simp] theorem ld9 (h : i < (mm w b).length) : pLoad P 9 (pt b i) w = some (gt (mm w b) i, w) := pLoad_scal tyOk9 isAggB9 h
@[simp] theorem st9 (hv : v.oneCell' = true) (hf : fz w b = false) (hi : i < (mm w b).length) : pStore P 9 (pt b i) v w = some (wr w b ((mm w b).set i v)) := pStore_one tyOk9 cellsOf9 hv hf hi
@[simp] theorem al21 : pAlloc P 21 w = some (pt (sz w) 0, nw w ([(Value.int IntKind.i32 0)]) 21) := by rw [pAlloc_eq hasZero21, zeroL21]
@[simp] theorem ld21 (h : i < (mm w b).length) : pLoad P 21 (pt b i) w = some (gt (mm w b) i, w) := pLoad_scal tyOk21 isAggB21 h
@[simp] theorem st21 (hv : v.oneCell' = true) (hf : fz w b = false) (hi : i < (mm w b).length) : pStore P 21 (pt b i) v w = some (wr w b ((mm w b).set i v)) := pStore_one tyOk21 cellsOf21 hv hf hi
@[simp] theorem cv21 {s : TypeId} (hs : tyOk P s = true) : pConv P s 21 (.int k x) w = some (.int .i32 (IntKind.wrap .i32 x), w) := pConv_int hs intK21
@[simp] theorem al22 : pAlloc P 22 w = some (pt (sz w) 0, nw w ([(Value.float FloatKind.f64 0)]) 22) := by rw [pAlloc_eq hasZero22, zeroL22]
@[simp] theorem ld22 (h : i < (mm w b).length) : pLoad P 22 (pt b i) w = some (gt (mm w b) i, w) := pLoad_scal tyOk22 isAggB22 h
@[simp] theorem st22 (hv : v.oneCell' = true) (hf : fz w b = false) (hi : i < (mm w b).length) : pStore P 22 (pt b i) v w = some (wr w b ((mm w b).set i v)) := pStore_one tyOk22 cellsOf22 hv hf hi
@[simp] theorem al25 : pAlloc P 25 w = some (pt (sz w) 0, nw w ([(Value.int IntKind.u64 0)]) 25) := by rw [pAlloc_eq hasZero25, zeroL25]
@[simp] theorem ld25 (h : i < (mm w b).length) : pLoad P 25 (pt b i) w = some (gt (mm w b) i, w) := pLoad_scal tyOk25 isAggB25 h
@[simp] theorem st25 (hv : v.oneCell' = true) (hf : fz w b = false) (hi : i < (mm w b).length) : pStore P 25 (pt b i) v w = some (wr w b ((mm w b).set i v)) := pStore_one tyOk25 cellsOf25 hv hf hi
@[simp] theorem cv25 {s : TypeId} (hs : tyOk P s = true) : pConv P s 25 (.int k x) w = some (.int .u64 (IntKind.wrap .u64 x), w) := pConv_int hs intK25
@[simp] theorem al37 : pAlloc P 37 w = some (pt (sz w) 0, nw w ([(Value.slice none 0 0)]) 37) := by rw [pAlloc_eq hasZero37, zeroL37]
@[simp] theorem ld37 (h : i < (mm w b).length) : pLoad P 37 (pt b i) w = some (gt (mm w b) i, w) := pLoad_scal tyOk37 isAggB37 h
@[simp] theorem st37 (hv : v.oneCell' = true) (hf : fz w b = false) (hi : i < (mm w b).length) : pStore P 37 (pt b i) v w = some (wr w b ((mm w b).set i v)) := pStore_one tyOk37 cellsOf37 hv hf hi
@[simp] theorem ia37 (h0 : 0 ≤ j) (h1 : j < n) : pIndexAddr P 37 (sl b o n c) (.int k j) w = some (pt b (o + j.toNat * 6), w) := by
  have := pIndexAddr_slice (w := w) (b := b) (o := o) (c := c) (k := k) sliceE37 tyOk60 h0 h1; rwa [cellsOf60] at this
@[simp] theorem len37 {ty : TypeId} {a : Option Addr} : pBuiltin P .len #[37] ty [.slice a n c] w = some (i64 n, w) := len_slice sliceE37
@[simp] theorem slL37 (h0 : 0 ≤ x) (h1 : x ≤ (n : Int)) (hnc : n ≤ c) : pSlice P 37 (sl b o n c) (some (.int k x)) none none w = some (.slice (some ⟨b, if c = x.toNat then o else o + x.toNat * 6, none⟩) (n - x.toNat) (c - x.toNat), w) := by
  have := pSlice_slice (P := P) (t := 37) (w := w) (b := b) (o := o) (lo := (some (.int k x))) (hi := none) sliceE37 tyOk60 rfl rfl h0 h1 (by simp [bHi]; omega) hnc; simpa [bLo, bHi] using this
@[simp] theorem slH37 {k' : IntKind} {y : Int} (h0 : 0 ≤ y) (h1 : y ≤ (c : Int)) (hnc : n ≤ c) : pSlice P 37 (sl b o n c) none (some (.int k' y)) none w = some (.slice (some ⟨b, o, none⟩) (y.toNat) (c), w) := by
  have := pSlice_slice (P := P) (t := 37) (w := w) (b := b) (o := o) (lo := none) (hi := (some (.int k' y))) sliceE37 tyOk60 rfl rfl (Int.le_refl 0) h0 h1 hnc; simpa [bLo, bHi] using this
@[simp] theorem slB37 {k' : IntKind} {y : Int} (h0 : 0 ≤ x) (h1 : x ≤ y) (h2 : y ≤ (c : Int)) (hnc : n ≤ c) : pSlice P 37 (sl b o n c) (some (.int k x)) (some (.int k' y)) none w = some (.slice (some ⟨b, if c = x.toNat then o else o + x.toNat * 6, none⟩) (y.toNat - x.toNat) (c - x.toNat), w) := by
  have := pSlice_slice (P := P) (t := 37) (w := w) (b := b) (o := o) (lo := (some (.int k x))) (hi := (some (.int k' y))) sliceE37 tyOk60 rfl rfl h0 h1 h2 hnc; simpa [bLo, bHi] using this
@[simp] theorem slN37  (hnc : n ≤ c) : pSlice P 37 (sl b o n c) none none none w = some (.slice (some ⟨b, o, none⟩) (n) (c), w) := by
  have := pSlice_slice (P := P) (t := 37) (w := w) (b := b) (o := o) (lo := none) (hi := none) sliceE37 tyOk60 rfl rfl (Int.le_refl 0) (by simp [bLo, bHi]) (by simp [bHi]; omega) hnc; simpa [bLo, bHi] using this
@[simp] theorem bsl37 {ps : List (Nat × Value)} (hbig : n * 6 ≤ 2 ^ 24) (hp : ∀ p ∈ ps, p.2.cells.size = 6 ∧ p.1 < n) : pBuildSlice P 37 n ps w = some (sl (sz w) 0 n n,
    nw w (ps.foldl (fun l p => splice l (p.1 * 6) p.2.cells.toList) (List.replicate n ([(Value.int IntKind.u8 0), (Value.int IntKind.u64 0), (Value.int IntKind.i64 0), (Value.float FloatKind.f64 0), (Value.string ByteArray.empty), (Value.bool false)])).flatten) 60) := by
  have := pBuildSlice_eq (w := w) sliceE37 hasZero60 tyOk60 cellsOf60 (by rw [zeroL60]; rfl) hbig hp; rwa [zeroL60] at this
@[simp] theorem al40 : pAlloc P 40 w = some (pt (sz w) 0, nw w ([(Value.slice none 0 0)]) 40) := by rw [pAlloc_eq hasZero40, zeroL40]
@[simp] theorem ld40 (h : i < (mm w b).length) : pLoad P 40 (pt b i) w = some (gt (mm w b) i, w) := pLoad_scal tyOk40 isAggB40 h
@[simp] theorem st40 (hv : v.oneCell' = true) (hf : fz w b = false) (hi : i < (mm w b).length) : pStore P 40 (pt b i) v w = some (wr w b ((mm w b).set i v)) := pStore_one tyOk40 cellsOf40 hv hf hi
@[simp] theorem ia40 (h0 : 0 ≤ j) (h1 : j < n) : pIndexAddr P 40 (sl b o n c) (.int k j) w = some (pt b (o + j.toNat * 1), w) := by
  have := pIndexAddr_slice (w := w) (b := b) (o := o) (c := c) (k := k) sliceE40 tyOk5 h0 h1; rwa [cellsOf5] at this
@[simp] theorem len40 {ty : TypeId} {a : Option Addr} : pBuiltin P .len #[40] ty [.slice a n c] w = some (i64 n, w) := len_slice sliceE40
@[simp] theorem slL40 (h0 : 0 ≤ x) (h1 : x ≤ (n : Int)) (hnc : n ≤ c) : pSlice P 40 (sl b o n c) (some (.int k x)) none none w = some (.slice (some ⟨b, if c = x.toNat then o else o + x.toNat * 1, none⟩) (n - x.toNat) (c - x.toNat), w) := by
  have := pSlice_slice (P := P) (t := 40) (w := w) (b := b) (o := o) (lo := (some (.int k x))) (hi := none) sliceE40 tyOk5 rfl rfl h0 h1 (by simp [bHi]; omega) hnc; simpa [bLo, bHi] using this
@[simp] theorem slH40 {k' : IntKind} {y : Int} (h0 : 0 ≤ y) (h1 : y ≤ (c : Int)) (hnc : n ≤ c) : pSlice P 40 (sl b o n c) none (some (.int k' y)) none w = some (.slice (some ⟨b, o, none⟩) (y.toNat) (c), w) := by
  have := pSlice_slice (P := P) (t := 40) (w := w) (b := b) (o := o) (lo := none) (hi := (some (.int k' y))) sliceE40 tyOk5 rfl rfl (Int.le_refl 0) h0 h1 hnc; simpa [bLo, bHi] using this
@[simp] theorem slB40 {k' : IntKind} {y : Int} (h0 : 0 ≤ x) (h1 : x ≤ y) (h2 : y ≤ (c : Int)) (hnc : n ≤ c) : pSlice P 40 (sl b o n c) (some (.int k x)) (some (.int k' y)) none w = some (.slice (some ⟨b, if c = x.toNat then o else o + x.toNat * 1, none⟩) (y.toNat - x.toNat) (c - x.toNat), w) := by
  have := pSlice_slice (P := P) (t := 40) (w := w) (b := b) (o := o) (lo := (some (.int k x))) (hi := (some (.int k' y))) sliceE40 tyOk5 rfl rfl h0 h1 h2 hnc; simpa [bLo, bHi] using this
@[simp] theorem slN40  (hnc : n ≤ c) : pSlice P 40 (sl b o n c) none none none w = some (.slice (some ⟨b, o, none⟩) (n) (c), w) := by
  have := pSlice_slice (P := P) (t := 40) (w := w) (b := b) (o := o) (lo := none) (hi := none) sliceE40 tyOk5 rfl rfl (Int.le_refl 0) (by simp [bLo, bHi]) (by simp [bHi]; omega) hnc; simpa [bLo, bHi] using this
@[simp] theorem bsl40 {ps : List (Nat × Value)} (hbig : n * 1 ≤ 2 ^ 24) (hp : ∀ p ∈ ps, p.2.cells.size = 1 ∧ p.1 < n) : pBuildSlice P 40 n ps w = some (sl (sz w) 0 n n,
    nw w (ps.foldl (fun l p => splice l (p.1 * 1) p.2.cells.toList) (List.replicate n ([(Value.int IntKind.u8 0)])).flatten) 5) := by
  have := pBuildSlice_eq (w := w) sliceE40 hasZero5 tyOk5 cellsOf5 (by rw [zeroL5]; rfl) hbig hp; rwa [zeroL5] at this
@[simp] theorem cvs40 : pConv P 40 40 (sl b o n c) w = some (sl b o n c, mkS w b) := conv_same sliceE40 intK5
@[simp] theorem al42 : pAlloc P 42 w = some (pt (sz w) 0, nw w ([(Value.int IntKind.i64 0)]) 42) := by rw [pAlloc_eq hasZero42, zeroL42]
@[simp] theorem ld42 (h : i < (mm w b).length) : pLoad P 42 (pt b i) w = some (gt (mm w b) i, w) := pLoad_scal tyOk42 isAggB42 h
@[simp] theorem st42 (hv : v.oneCell' = true) (hf : fz w b = false) (hi : i < (mm w b).length) : pStore P 42 (pt b i) v w = some (wr w b ((mm w b).set i v)) := pStore_one tyOk42 cellsOf42 hv hf hi
@[simp] theorem cv42 {s : TypeId} (hs : tyOk P s = true) : pConv P s 42 (.int k x) w = some (.int .i64 (IntKind.wrap .i64 x), w) := pConv_int hs intK42
@[simp] theorem al44 : pAlloc P 44 w = some (pt (sz w) 0, nw w ([(Value.int IntKind.i64 0), (Value.int IntKind.i64 0)]) 44) := by rw [pAlloc_eq hasZero44, zeroL44]
@[simp] theorem ld44 (h : i + 2 ≤ (mm w b).length) : pLoad P 44 (pt b i) w = some (.agg (((mm w b).drop i).take 2).toArray, w) := by
  have := pLoad_agg (w := w) (b := b) (i := i) tyOk44 isAggB44 (by rw [cellsOf44]; exact h); rwa [cellsOf44] at this
@[simp] theorem st44 (hs : a.size = 2) (hv : ∀ v ∈ a.toList, v.oneCell' = true) (hf : fz w b = false) (hi : i + 2 ≤ (mm w b).length) : pStore P 44 (pt b i) (.agg a) w = some (wr w b (splice (mm w b) i a.toList)) :=
  pStore_agg tyOk44 (by rw [cellsOf44, hs]) hv hf (by rw [hs]; exact hi)
@[simp] theorem bf44 {ps : List (Nat × Value)} (hp : ∀ p ∈ ps, p.1 < 2 ∧ p.2.oneCell' = true) : pBuild P 44 ps w = some (.agg (ps.foldl (fun l p => l.set p.1 p.2) ([(Value.int IntKind.i64 0), (Value.int IntKind.i64 0)])).toArray, w) := by
  have := pBuild_flat (w := w) (ps := ps) hasZero44 (by kernel_rfl) (by kernel_rfl) (by rw [zeroL44]; exact hp); rwa [zeroL44] at this
@[simp] theorem fa44n0 : pFieldAddr P 44 (pt b i) 0 w = some (pt b (i + 0), w) := pFieldAddr_eq field44n0 tyOk42 (by rw [cellsOf42]; rfl)
@[simp] theorem fi44n0 (h : 0 < a.size) : pField P 44 (.agg a) 0 w = some (gt a.toList 0, w) := pField_scal field44n0 tyOk42 isAggB42 h
@[simp] theorem fa44n1 : pFieldAddr P 44 (pt b i) 1 w = some (pt b (i + 1), w) := pFieldAddr_eq field44n1 tyOk3 (by rw [cellsOf3]; rfl)
@[simp] theorem fi44n1 (h : 1 < a.size) : pField P 44 (.agg a) 1 w = some (gt a.toList 1, w) := pField_scal field44n1 tyOk3 isAggB3 h
@[simp] theorem al48 : pAlloc P 48 w = some (pt (sz w) 0, nw w ([(Value.slice none 0 0)]) 48) := by rw [pAlloc_eq hasZero48, zeroL48]
@[simp] theorem ld48 (h : i < (mm w b).length) : pLoad P 48 (pt b i) w = some (gt (mm w b) i, w) := pLoad_scal tyOk48 isAggB48 h
@[simp] theorem st48 (hv : v.oneCell' = true) (hf : fz w b = false) (hi : i < (mm w b).length) : pStore P 48 (pt b i) v w = some (wr w b ((mm w b).set i v)) := pStore_one tyOk48 cellsOf48 hv hf hi
@[simp] theorem ia48 (h0 : 0 ≤ j) (h1 : j < n) : pIndexAddr P 48 (sl b o n c) (.int k j) w = some (pt b (o + j.toNat * 6), w) := by
  have := pIndexAddr_slice (w := w) (b := b) (o := o) (c := c) (k := k) sliceE48 tyOk75 h0 h1; rwa [cellsOf75] at this
@[simp] theorem len48 {ty : TypeId} {a : Option Addr} : pBuiltin P .len #[48] ty [.slice a n c] w = some (i64 n, w) := len_slice sliceE48
@[simp] theorem slL48 (h0 : 0 ≤ x) (h1 : x ≤ (n : Int)) (hnc : n ≤ c) : pSlice P 48 (sl b o n c) (some (.int k x)) none none w = some (.slice (some ⟨b, if c = x.toNat then o else o + x.toNat * 6, none⟩) (n - x.toNat) (c - x.toNat), w) := by
  have := pSlice_slice (P := P) (t := 48) (w := w) (b := b) (o := o) (lo := (some (.int k x))) (hi := none) sliceE48 tyOk75 rfl rfl h0 h1 (by simp [bHi]; omega) hnc; simpa [bLo, bHi] using this
@[simp] theorem slH48 {k' : IntKind} {y : Int} (h0 : 0 ≤ y) (h1 : y ≤ (c : Int)) (hnc : n ≤ c) : pSlice P 48 (sl b o n c) none (some (.int k' y)) none w = some (.slice (some ⟨b, o, none⟩) (y.toNat) (c), w) := by
  have := pSlice_slice (P := P) (t := 48) (w := w) (b := b) (o := o) (lo := none) (hi := (some (.int k' y))) sliceE48 tyOk75 rfl rfl (Int.le_refl 0) h0 h1 hnc; simpa [bLo, bHi] using this
@[simp] theorem slB48 {k' : IntKind} {y : Int} (h0 : 0 ≤ x) (h1 : x ≤ y) (h2 : y ≤ (c : Int)) (hnc : n ≤ c) : pSlice P 48 (sl b o n c) (some (.int k x)) (some (.int k' y)) none w = some (.slice (some ⟨b, if c = x.toNat then o else o + x.toNat * 6, none⟩) (y.toNat - x.toNat) (c - x.toNat), w) := by
  have := pSlice_slice (P := P) (t := 48) (w := w) (b := b) (o := o) (lo := (some (.int k x))) (hi := (some (.int k' y))) sliceE48 tyOk75 rfl rfl h0 h1 h2 hnc; simpa [bLo, bHi] using this
@[simp] theorem slN48  (hnc : n ≤ c) : pSlice P 48 (sl b o n c) none none none w = some (.slice (some ⟨b, o, none⟩) (n) (c), w) := by
  have := pSlice_slice (P := P) (t := 48) (w := w) (b := b) (o := o) (lo := none) (hi := none) sliceE48 tyOk75 rfl rfl (Int.le_refl 0) (by simp [bLo, bHi]) (by simp [bHi]; omega) hnc; simpa [bLo, bHi] using this
@[simp] theorem bsl48 {ps : List (Nat × Value)} (hbig : n * 6 ≤ 2 ^ 24) (hp : ∀ p ∈ ps, p.2.cells.size = 6 ∧ p.1 < n) : pBuildSlice P 48 n ps w = some (sl (sz w) 0 n n,
    nw w (ps.foldl (fun l p => splice l (p.1 * 6) p.2.cells.toList) (List.replicate n ([(Value.int IntKind.u8 0), (Value.int IntKind.u64 0), (Value.int IntKind.i64 0), (Value.int IntKind.u64 0), (Value.string ByteArray.empty), (Value.bool false)])).flatten) 75) := by
  have := pBuildSlice_eq (w := w) sliceE48 hasZero75 tyOk75 cellsOf75 (by rw [zeroL75]; rfl) hbig hp; rwa [zeroL75] at this
@[simp] theorem al58 : pAlloc P 58 w = some (pt (sz w) 0, nw w ([(Value.slice none 0 0)]) 58) := by rw [pAlloc_eq hasZero58, zeroL58]
@[simp] theorem ld58 (h : i + 1 ≤ (mm w b).length) : pLoad P 58 (pt b i) w = some (.agg (((mm w b).drop i).take 1).toArray, w) := by
  have := pLoad_agg (w := w) (b := b) (i := i) tyOk58 isAggB58 (by rw [cellsOf58]; exact h); rwa [cellsOf58] at this
@[simp] theorem st58 (hs : a.size = 1) (hv : ∀ v ∈ a.toList, v.oneCell' = true) (hf : fz w b = false) (hi : i + 1 ≤ (mm w b).length) : pStore P 58 (pt b i) (.agg a) w = some (wr w b (splice (mm w b) i a.toList)) :=
  pStore_agg tyOk58 (by rw [cellsOf58, hs]) hv hf (by rw [hs]; exact hi)
@[simp] theorem bf58 {ps : List (Nat × Value)} (hp : ∀ p ∈ ps, p.1 < 1 ∧ p.2.oneCell' = true) : pBuild P 58 ps w = some (.agg (ps.foldl (fun l p => l.set p.1 p.2) ([(Value.slice none 0 0)])).toArray, w) := by
  have := pBuild_flat (w := w) (ps := ps) hasZero58 (by kernel_rfl) (by kernel_rfl) (by rw [zeroL58]; exact hp); rwa [zeroL58] at this
@[simp] theorem fa58n0 : pFieldAddr P 58 (pt b i) 0 w = some (pt b (i + 0), w) := pFieldAddr_eq field58n0 tyOk40 (by rw [cellsOf40]; rfl)
@[simp] theorem fi58n0 (h : 0 < a.size) : pField P 58 (.agg a) 0 w = some (gt a.toList 0, w) := pField_scal field58n0 tyOk40 isAggB40 h
@[simp] theorem al60 : pAlloc P 60 w = some (pt (sz w) 0, nw w ([(Value.int IntKind.u8 0), (Value.int IntKind.u64 0), (Value.int IntKind.i64 0), (Value.float FloatKind.f64 0), (Value.string ByteArray.empty), (Value.bool false)]) 60) := by rw [pAlloc_eq hasZero60, zeroL60]
@[simp] theorem ld60 (h : i + 6 ≤ (mm w b).length) : pLoad P 60 (pt b i) w = some (.agg (((mm w b).drop i).take 6).toArray, w) := by
  have := pLoad_agg (w := w) (b := b) (i := i) tyOk60 isAggB60 (by rw [cellsOf60]; exact h); rwa [cellsOf60] at this
@[simp] theorem st60 (hs : a.size = 6) (hv : ∀ v ∈ a.toList, v.oneCell' = true) (hf : fz w b = false) (hi : i + 6 ≤ (mm w b).length) : pStore P 60 (pt b i) (.agg a) w = some (wr w b (splice (mm w b) i a.toList)) :=
  pStore_agg tyOk60 (by rw [cellsOf60, hs]) hv hf (by rw [hs]; exact hi)
@[simp] theorem bf60 {ps : List (Nat × Value)} (hp : ∀ p ∈ ps, p.1 < 6 ∧ p.2.oneCell' = true) : pBuild P 60 ps w = some (.agg (ps.foldl (fun l p => l.set p.1 p.2) ([(Value.int IntKind.u8 0), (Value.int IntKind.u64 0), (Value.int IntKind.i64 0), (Value.float FloatKind.f64 0), (Value.string ByteArray.empty), (Value.bool false)])).toArray, w) := by
  have := pBuild_flat (w := w) (ps := ps) hasZero60 (by kernel_rfl) (by kernel_rfl) (by rw [zeroL60]; exact hp); rwa [zeroL60] at this
@[simp] theorem fa60n0 : pFieldAddr P 60 (pt b i) 0 w = some (pt b (i + 0), w) := pFieldAddr_eq field60n0 tyOk5 (by rw [cellsOf5]; rfl)
@[simp] theorem fi60n0 (h : 0 < a.size) : pField P 60 (.agg a) 0 w = some (gt a.toList 0, w) := pField_scal field60n0 tyOk5 isAggB5 h
@[simp] theorem fa60n1 : pFieldAddr P 60 (pt b i) 1 w = some (pt b (i + 1), w) := pFieldAddr_eq field60n1 tyOk25 (by rw [cellsOf25]; rfl)
@[simp] theorem fi60n1 (h : 1 < a.size) : pField P 60 (.agg a) 1 w = some (gt a.toList 1, w) := pField_scal field60n1 tyOk25 isAggB25 h
@[simp] theorem fa60n2 : pFieldAddr P 60 (pt b i) 2 w = some (pt b (i + 2), w) := pFieldAddr_eq field60n2 tyOk2 (by rw [cellsOf2]; rfl)
@[simp] theorem fi60n2 (h : 2 < a.size) : pField P 60 (.agg a) 2 w = some (gt a.toList 2, w) := pField_scal field60n2 tyOk2 isAggB2 h
@[simp] theorem fa60n3 : pFieldAddr P 60 (pt b i) 3 w = some (pt b (i + 3), w) := pFieldAddr_eq field60n3 tyOk22 (by rw [cellsOf22]; rfl)
@[simp] theorem fi60n3 (h : 3 < a.size) : pField P 60 (.agg a) 3 w = some (gt a.toList 3, w) := pField_scal field60n3 tyOk22 isAggB22 h
@[simp] theorem fa60n4 : pFieldAddr P 60 (pt b i) 4 w = some (pt b (i + 4), w) := pFieldAddr_eq field60n4 tyOk9 (by rw [cellsOf9]; rfl)
@[simp] theorem fi60n4 (h : 4 < a.size) : pField P 60 (.agg a) 4 w = some (gt a.toList 4, w) := pField_scal field60n4 tyOk9 isAggB9 h
@[simp] theorem fa60n5 : pFieldAddr P 60 (pt b i) 5 w = some (pt b (i + 5), w) := pFieldAddr_eq field60n5 tyOk4 (by rw [cellsOf4]; rfl)
@[simp] theorem fi60n5 (h : 5 < a.size) : pField P 60 (.agg a) 5 w = some (gt a.toList 5, w) := pField_scal field60n5 tyOk4 isAggB4 h
@[simp] theorem al68 : pAlloc P 68 w = some (pt (sz w) 0, nw w ([(Value.slice none 0 0)]) 68) := by rw [pAlloc_eq hasZero68, zeroL68]
@[simp] theorem ld68 (h : i < (mm w b).length) : pLoad P 68 (pt b i) w = some (gt (mm w b) i, w) := pLoad_scal tyOk68 isAggB68 h
@[simp] theorem st68 (hv : v.oneCell' = true) (hf : fz w b = false) (hi : i < (mm w b).length) : pStore P 68 (pt b i) v w = some (wr w b ((mm w b).set i v)) := pStore_one tyOk68 cellsOf68 hv hf hi
@[simp] theorem ia68 (h0 : 0 ≤ j) (h1 : j < n) : pIndexAddr P 68 (sl b o n c) (.int k j) w = some (pt b (o + j.toNat * 1), w) := by
  have := pIndexAddr_slice (w := w) (b := b) (o := o) (c := c) (k := k) sliceE68 tyOk4 h0 h1; rwa [cellsOf4] at this
@[simp] theorem len68 {ty : TypeId} {a : Option Addr} : pBuiltin P .len #[68] ty [.slice a n c] w = some (i64 n, w) := len_slice sliceE68
@[simp] theorem slL68 (h0 : 0 ≤ x) (h1 : x ≤ (n : Int)) (hnc : n ≤ c) : pSlice P 68 (sl b o n c) (some (.int k x)) none none w = some (.slice (some ⟨b, if c = x.toNat then o else o + x.toNat * 1, none⟩) (n - x.toNat) (c - x.toNat), w) := by
  have := pSlice_slice (P := P) (t := 68) (w := w) (b := b) (o := o) (lo := (some (.int k x))) (hi := none) sliceE68 tyOk4 rfl rfl h0 h1 (by simp [bHi]; omega) hnc; simpa [bLo, bHi] using this
@[simp] theorem slH68 {k' : IntKind} {y : Int} (h0 : 0 ≤ y) (h1 : y ≤ (c : Int)) (hnc : n ≤ c) : pSlice P 68 (sl b o n c) none (some (.int k' y)) none w = some (.slice (some ⟨b, o, none⟩) (y.toNat) (c), w) := by
  have := pSlice_slice (P := P) (t := 68) (w := w) (b := b) (o := o) (lo := none) (hi := (some (.int k' y))) sliceE68 tyOk4 rfl rfl (Int.le_refl 0) h0 h1 hnc; simpa [bLo, bHi] using this
@[simp] theorem slB68 {k' : IntKind} {y : Int} (h0 : 0 ≤ x) (h1 : x ≤ y) (h2 : y ≤ (c : Int)) (hnc : n ≤ c) : pSlice P 68 (sl b o n c) (some (.int k x)) (some (.int k' y)) none w = some (.slice (some ⟨b, if c = x.toNat then o else o + x.toNat * 1, none⟩) (y.toNat - x.toNat) (c - x.toNat), w) := by
  have := pSlice_slice (P := P) (t := 68) (w := w) (b := b) (o := o) (lo := (some (.int k x))) (hi := (some (.int k' y))) sliceE68 tyOk4 rfl rfl h0 h1 h2 hnc; simpa [bLo, bHi] using this
@[simp] theorem slN68  (hnc : n ≤ c) : pSlice P 68 (sl b o n c) none none none w = some (.slice (some ⟨b, o, none⟩) (n) (c), w) := by
  have := pSlice_slice (P := P) (t := 68) (w := w) (b := b) (o := o) (lo := none) (hi := none) sliceE68 tyOk4 rfl rfl (Int.le_refl 0) (by simp [bLo, bHi]) (by simp [bHi]; omega) hnc; simpa [bLo, bHi] using this
@[simp] theorem bsl68 {ps : List (Nat × Value)} (hbig : n * 1 ≤ 2 ^ 24) (hp : ∀ p ∈ ps, p.2.cells.size = 1 ∧ p.1 < n) : pBuildSlice P 68 n ps w = some (sl (sz w) 0 n n,
    nw w (ps.foldl (fun l p => splice l (p.1 * 1) p.2.cells.toList) (List.replicate n ([(Value.bool false)])).flatten) 4) := by
  have := pBuildSlice_eq (w := w) sliceE68 hasZero4 tyOk4 cellsOf4 (by rw [zeroL4]; rfl) hbig hp; rwa [zeroL4] at this
@[simp] theorem al75 : pAlloc P 75 w = some (pt (sz w) 0, nw w ([(Value.int IntKind.u8 0), (Value.int IntKind.u64 0), (Value.int IntKind.i64 0), (Value.int IntKind.u64 0), (Value.string ByteArray.empty), (Value.bool false)]) 75) := by rw [pAlloc_eq hasZero75, zeroL75]
@[simp] theorem ld75 (h : i + 6 ≤ (mm w b).length) : pLoad P 75 (pt b i) w = some (.agg (((mm w b).drop i).take 6).toArray, w) := by
  have := pLoad_agg (w := w) (b := b) (i := i) tyOk75 isAggB75 (by rw [cellsOf75]; exact h); rwa [cellsOf75] at this
@[simp] theorem st75 (hs : a.size = 6) (hv : ∀ v ∈ a.toList, v.oneCell' = true) (hf : fz w b = false) (hi : i + 6 ≤ (mm w b).length) : pStore P 75 (pt b i) (.agg a) w = some (wr w b (splice (mm w b) i a.toList)) :=
  pStore_agg tyOk75 (by rw [cellsOf75, hs]) hv hf (by rw [hs]; exact hi)
@[simp] theorem bf75 {ps : List (Nat × Value)} (hp : ∀ p ∈ ps, p.1 < 6 ∧ p.2.oneCell' = true) : pBuild P 75 ps w = some (.agg (ps.foldl (fun l p => l.set p.1 p.2) ([(Value.int IntKind.u8 0), (Value.int IntKind.u64 0), (Value.int IntKind.i64 0), (Value.int IntKind.u64 0), (Value.string ByteArray.empty), (Value.bool false)])).toArray, w) := by
  have := pBuild_flat (w := w) (ps := ps) hasZero75 (by kernel_rfl) (by kernel_rfl) (by rw [zeroL75]; exact hp); rwa [zeroL75] at this
@[simp] theorem fa75n0 : pFieldAddr P 75 (pt b i) 0 w = some (pt b (i + 0), w) := pFieldAddr_eq field75n0 tyOk5 (by rw [cellsOf5]; rfl)
@[simp] theorem fi75n0 (h : 0 < a.size) : pField P 75 (.agg a) 0 w = some (gt a.toList 0, w) := pField_scal field75n0 tyOk5 isAggB5 h
@[simp] theorem fa75n1 : pFieldAddr P 75 (pt b i) 1 w = some (pt b (i + 1), w) := pFieldAddr_eq field75n1 tyOk25 (by rw [cellsOf25]; rfl)
@[simp] theorem fi75n1 (h : 1 < a.size) : pField P 75 (.agg a) 1 w = some (gt a.toList 1, w) := pField_scal field75n1 tyOk25 isAggB25 h
@[simp] theorem fa75n2 : pFieldAddr P 75 (pt b i) 2 w = some (pt b (i + 2), w) := pFieldAddr_eq field75n2 tyOk2 (by rw [cellsOf2]; rfl)
@[simp] theorem fi75n2 (h : 2 < a.size) : pField P 75 (.agg a) 2 w = some (gt a.toList 2, w) := pField_scal field75n2 tyOk2 isAggB2 h
@[simp] theorem fa75n3 : pFieldAddr P 75 (pt b i) 3 w = some (pt b (i + 3), w) := pFieldAddr_eq field75n3 tyOk25 (by rw [cellsOf25]; rfl)
@[simp] theorem fi75n3 (h : 3 < a.size) : pField P 75 (.agg a) 3 w = some (gt a.toList 3, w) := pField_scal field75n3 tyOk25 isAggB25 h
@[simp] theorem fa75n4 : pFieldAddr P 75 (pt b i) 4 w = some (pt b (i + 4), w) := pFieldAddr_eq field75n4 tyOk9 (by rw [cellsOf9]; rfl)
@[simp] theorem fi75n4 (h : 4 < a.size) : pField P 75 (.agg a) 4 w = some (gt a.toList 4, w) := pField_scal field75n4 tyOk9 isAggB9 h
@[simp] theorem fa75n5 : pFieldAddr P 75 (pt b i) 5 w = some (pt b (i + 5), w) := pFieldAddr_eq field75n5 tyOk4 (by rw [cellsOf4]; rfl)
@[simp] theorem fi75n5 (h : 5 < a.size) : pField P 75 (.agg a) 5 w = some (gt a.toList 5, w) := pField_scal field75n5 tyOk4 isAggB4 h
@[simp] theorem al78 : pAlloc P 78 w = some (pt (sz w) 0, nw w ([(Value.pointer none)]) 78) := by rw [pAlloc_eq hasZero78, zeroL78]
@[simp] theorem ld78 (h : i < (mm w b).length) : pLoad P 78 (pt b i) w = some (gt (mm w b) i, w) := pLoad_scal tyOk78 isAggB78 h
@[simp] theorem st78 (hv : v.oneCell' = true) (hf : fz w b = false) (hi : i < (mm w b).length) : pStore P 78 (pt b i) v w = some (wr w b ((mm w b).set i v)) := pStore_one tyOk78 cellsOf78 hv hf hi
@[simp] theorem eqn78 {lit : Bool} {q : Option Addr} : pBin P .eql 78 lit (.pointer q) (.pointer none) w = some (.bool q.isNone, w) := eqNil und78
@[simp] theorem nen78 {lit : Bool} {q : Option Addr} : pBin P .neq 78 lit (.pointer q) (.pointer none) w = some (.bool q.isSome, w) := neNil und78
@[simp] theorem al84 : pAlloc P 84 w = some (pt (sz w) 0, nw w ([(Value.pointer none)]) 84) := by rw [pAlloc_eq hasZero84, zeroL84]
@[simp] theorem ld84 (h : i < (mm w b).length) : pLoad P 84 (pt b i) w = some (gt (mm w b) i, w) := pLoad_scal tyOk84 isAggB84 h
@[simp] theorem st84 (hv : v.oneCell' = true) (hf : fz w b = false) (hi : i < (mm w b).length) : pStore P 84 (pt b i) v w = some (wr w b ((mm w b).set i v)) := pStore_one tyOk84 cellsOf84 hv hf hi
@[simp] theorem eqn84 {lit : Bool} {q : Option Addr} : pBin P .eql 84 lit (.pointer q) (.pointer none) w = some (.bool q.isNone, w) := eqNil und84
@[simp] theorem nen84 {lit : Bool} {q : Option Addr} : pBin P .neq 84 lit (.pointer q) (.pointer none) w = some (.bool q.isSome, w) := neNil und84
@[simp] theorem al89 : pAlloc P 89 w = some (pt (sz w) 0, nw w ([(Value.slice none 0 0), (Value.int IntKind.i64 0)]) 89) := by rw [pAlloc_eq hasZero89, zeroL89]
@[simp] theorem ld89 (h : i + 2 ≤ (mm w b).length) : pLoad P 89 (pt b i) w = some (.agg (((mm w b).drop i).take 2).toArray, w) := by
  have := pLoad_agg (w := w) (b := b) (i := i) tyOk89 isAggB89 (by rw [cellsOf89]; exact h); rwa [cellsOf89] at this
@[simp] theorem st89 (hs : a.size = 2) (hv : ∀ v ∈ a.toList, v.oneCell' = true) (hf : fz w b = false) (hi : i + 2 ≤ (mm w b).length) : pStore P 89 (pt b i) (.agg a) w = some (wr w b (splice (mm w b) i a.toList)) :=
  pStore_agg tyOk89 (by rw [cellsOf89, hs]) hv hf (by rw [hs]; exact hi)
@[simp] theorem bf89 {ps : List (Nat × Value)} (hp : ∀ p ∈ ps, p.1 < 2 ∧ p.2.oneCell' = true) : pBuild P 89 ps w = some (.agg (ps.foldl (fun l p => l.set p.1 p.2) ([(Value.slice none 0 0), (Value.int IntKind.i64 0)])).toArray, w) := by
  have := pBuild_flat (w := w) (ps := ps) hasZero89 (by kernel_rfl) (by kernel_rfl) (by rw [zeroL89]; exact hp); rwa [zeroL89] at this
@[simp] theorem fa89n0 : pFieldAddr P 89 (pt b i) 0 w = some (pt b (i + 0), w) := pFieldAddr_eq field89n0 tyOk40 (by rw [cellsOf40]; rfl)
@[simp] theorem fi89n0 (h : 0 < a.size) : pField P 89 (.agg a) 0 w = some (gt a.toList 0, w) := pField_scal field89n0 tyOk40 isAggB40 h
@[simp] theorem fa89n1 : pFieldAddr P 89 (pt b i) 1 w = some (pt b (i + 1), w) := pFieldAddr_eq field89n1 tyOk3 (by rw [cellsOf3]; rfl)
@[simp] theorem fi89n1 (h : 1 < a.size) : pField P 89 (.agg a) 1 w = some (gt a.toList 1, w) := pField_scal field89n1 tyOk3 isAggB3 h
end
end Go.Proofs.Ytfmcplkijjndlaa
