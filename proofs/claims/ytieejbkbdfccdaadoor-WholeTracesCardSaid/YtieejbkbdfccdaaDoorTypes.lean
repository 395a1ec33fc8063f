/- Facts on the program's types, printed by types.py. -/
import Derived.Test.YtieejbkbdfccdaaDoorPrims3
import Derived.Test.YtieejbkbdfccdaaDoorBase
set_option linter.unusedVariables false
namespace Go.Proofs.YtieejbkbdfccdaaDoor
open Go

section
variable {w : World} {b i o n c : Nat} {k : IntKind} {x j : Int} {v : Value} {a : Array Value} {lo hi : Option Value}

@[simp] theorem tyOk2 : tyOk P 2 = true := by kernel_rfl
@[simp] theorem isAggB2 : isAggB P 2 = false := by kernel_rfl
@[simp] theorem cellsOf2 : P.cellsOf 2 = 1 := by kernel_rfl
@[simp] theorem bytesOf2 : P.bytesOf 2 = 8 := by kernel_rfl
@[simp] theorem hasZero2 : hasZero P 2 = true := by kernel_rfl
@[simp] theorem zeroL2 : zeroL P 2 = [(Value.int IntKind.i64 0)] := by kernel_rfl
@[simp] theorem intK2 : intK P 2 = some IntKind.i64 := by kernel_rfl
@[simp] theorem und2 : P.underlying 2 = some (.int .i64) := by kernel_rfl
@[simp] theorem tyOk3 : tyOk P 3 = true := by kernel_rfl
@[simp] theorem isAggB3 : isAggB P 3 = false := by kernel_rfl
@[simp] theorem cellsOf3 : P.cellsOf 3 = 1 := by kernel_rfl
@[simp] theorem bytesOf3 : P.bytesOf 3 = 8 := by kernel_rfl
@[simp] theorem hasZero3 : hasZero P 3 = true := by kernel_rfl
@[simp] theorem zeroL3 : zeroL P 3 = [(Value.int IntKind.i64 0)] := by kernel_rfl
@[simp] theorem intK3 : intK P 3 = some IntKind.i64 := by kernel_rfl
@[simp] theorem und3 : P.underlying 3 = some (.int .i64) := by kernel_rfl
@[simp] theorem tyOk4 : tyOk P 4 = true := by kernel_rfl
@[simp] theorem isAggB4 : isAggB P 4 = false := by kernel_rfl
@[simp] theorem cellsOf4 : P.cellsOf 4 = 1 := by kernel_rfl
@[simp] theorem bytesOf4 : P.bytesOf 4 = 1 := by kernel_rfl
@[simp] theorem hasZero4 : hasZero P 4 = true := by kernel_rfl
@[simp] theorem zeroL4 : zeroL P 4 = [(Value.bool false)] := by kernel_rfl
@[simp] theorem und4 : P.underlying 4 = some .bool := by kernel_rfl
@[simp] theorem tyOk5 : tyOk P 5 = true := by kernel_rfl
@[simp] theorem isAggB5 : isAggB P 5 = false := by kernel_rfl
@[simp] theorem cellsOf5 : P.cellsOf 5 = 1 := by kernel_rfl
@[simp] theorem bytesOf5 : P.bytesOf 5 = 1 := by kernel_rfl
@[simp] theorem hasZero5 : hasZero P 5 = true := by kernel_rfl
@[simp] theorem zeroL5 : zeroL P 5 = [(Value.int IntKind.u8 0)] := by kernel_rfl
@[simp] theorem intK5 : intK P 5 = some IntKind.u8 := by kernel_rfl
@[simp] theorem und5 : P.underlying 5 = some (.int .u8) := by kernel_rfl
@[simp] theorem tyOk9 : tyOk P 9 = true := by kernel_rfl
@[simp] theorem isAggB9 : isAggB P 9 = false := by kernel_rfl
@[simp] theorem cellsOf9 : P.cellsOf 9 = 1 := by kernel_rfl
@[simp] theorem bytesOf9 : P.bytesOf 9 = 16 := by kernel_rfl
@[simp] theorem hasZero9 : hasZero P 9 = true := by kernel_rfl
@[simp] theorem zeroL9 : zeroL P 9 = [(Value.string ByteArray.empty)] := by kernel_rfl
@[simp] theorem und9 : P.underlying 9 = some .string := by kernel_rfl
@[simp] theorem tyOk22 : tyOk P 22 = true := by kernel_rfl
@[simp] theorem isAggB22 : isAggB P 22 = false := by kernel_rfl
@[simp] theorem cellsOf22 : P.cellsOf 22 = 1 := by kernel_rfl
@[simp] theorem bytesOf22 : P.bytesOf 22 = 8 := by kernel_rfl
@[simp] theorem hasZero22 : hasZero P 22 = true := by kernel_rfl
@[simp] theorem zeroL22 : zeroL P 22 = [(Value.float FloatKind.f64 0)] := by kernel_rfl
@[simp] theorem tyOk23 : tyOk P 23 = true := by kernel_rfl
@[simp] theorem isAggB23 : isAggB P 23 = false := by kernel_rfl
@[simp] theorem cellsOf23 : P.cellsOf 23 = 1 := by kernel_rfl
@[simp] theorem bytesOf23 : P.bytesOf 23 = 24 := by kernel_rfl
@[simp] theorem hasZero23 : hasZero P 23 = true := by kernel_rfl
@[simp] theorem zeroL23 : zeroL P 23 = [(Value.slice none 0 0)] := by kernel_rfl
@[simp] theorem sliceE23 : sliceE P 23 = some 80 := by kernel_rfl
@[simp] theorem tyOk25 : tyOk P 25 = true := by kernel_rfl
@[simp] theorem isAggB25 : isAggB P 25 = true := by kernel_rfl
@[simp] theorem cellsOf25 : P.cellsOf 25 = 8 := by kernel_rfl
@[simp] theorem bytesOf25 : P.bytesOf 25 = 88 := by kernel_rfl
@[simp] theorem hasZero25 : hasZero P 25 = true := by kernel_rfl
@[simp] theorem zeroL25 : zeroL P 25 = [(Value.int IntKind.i64 0), (Value.int IntKind.i64 0), (Value.int IntKind.i64 0), (Value.int IntKind.i64 0), (Value.float FloatKind.f64 0), (Value.int IntKind.i64 0), (Value.string ByteArray.empty), (Value.slice none 0 0)] := by kernel_rfl
@[simp] theorem eqg25 : P.eqGuardType P.depth 25 = false := by kernel_rfl
@[simp] theorem field25n0 : fieldB P 25 0 = some (0, 3) := by kernel_rfl
@[simp] theorem field25n1 : fieldB P 25 1 = some (1, 2) := by kernel_rfl
@[simp] theorem field25n2 : fieldB P 25 2 = some (2, 2) := by kernel_rfl
@[simp] theorem field25n3 : fieldB P 25 3 = some (3, 2) := by kernel_rfl
@[simp] theorem field25n4 : fieldB P 25 4 = some (4, 22) := by kernel_rfl
@[simp] theorem field25n5 : fieldB P 25 5 = some (5, 3) := by kernel_rfl
@[simp] theorem field25n6 : fieldB P 25 6 = some (6, 9) := by kernel_rfl
@[simp] theorem field25n7 : fieldB P 25 7 = some (7, 23) := by kernel_rfl
@[simp] theorem tyOk27 : tyOk P 27 = true := by kernel_rfl
@[simp] theorem isAggB27 : isAggB P 27 = true := by kernel_rfl
@[simp] theorem cellsOf27 : P.cellsOf 27 = 14 := by kernel_rfl
@[simp] theorem bytesOf27 : P.bytesOf 27 = 152 := by kernel_rfl
@[simp] theorem hasZero27 : hasZero P 27 = true := by kernel_rfl
@[simp] theorem zeroL27 : zeroL P 27 = [(Value.int IntKind.i64 0), (Value.string ByteArray.empty), (Value.int IntKind.i64 0), (Value.float FloatKind.f64 0), (Value.string ByteArray.empty), (Value.int IntKind.i64 0), (Value.int IntKind.i64 0), (Value.int IntKind.i64 0), (Value.int IntKind.i64 0), (Value.float FloatKind.f64 0), (Value.int IntKind.i64 0), (Value.string ByteArray.empty), (Value.slice none 0 0)] ++ List.replicate 1 (Value.bool false) := by kernel_rfl
@[simp] theorem eqg27 : P.eqGuardType P.depth 27 = false := by kernel_rfl
@[simp] theorem field27n0 : fieldB P 27 0 = some (0, 3) := by kernel_rfl
@[simp] theorem field27n1 : fieldB P 27 1 = some (1, 9) := by kernel_rfl
@[simp] theorem field27n2 : fieldB P 27 2 = some (2, 2) := by kernel_rfl
@[simp] theorem field27n3 : fieldB P 27 3 = some (3, 22) := by kernel_rfl
@[simp] theorem field27n4 : fieldB P 27 4 = some (4, 9) := by kernel_rfl
@[simp] theorem field27n5 : fieldB P 27 5 = some (5, 25) := by kernel_rfl
@[simp] theorem field27n6 : fieldB P 27 6 = some (13, 4) := by kernel_rfl
@[simp] theorem tyOk28 : tyOk P 28 = true := by kernel_rfl
@[simp] theorem isAggB28 : isAggB P 28 = false := by kernel_rfl
@[simp] theorem cellsOf28 : P.cellsOf 28 = 1 := by kernel_rfl
@[simp] theorem bytesOf28 : P.bytesOf 28 = 24 := by kernel_rfl
@[simp] theorem hasZero28 : hasZero P 28 = true := by kernel_rfl
@[simp] theorem zeroL28 : zeroL P 28 = [(Value.slice none 0 0)] := by kernel_rfl
@[simp] theorem sliceE28 : sliceE P 28 = some 5 := by kernel_rfl
@[simp] theorem tyOk35 : tyOk P 35 = true := by kernel_rfl
@[simp] theorem isAggB35 : isAggB P 35 = false := by kernel_rfl
@[simp] theorem cellsOf35 : P.cellsOf 35 = 1 := by kernel_rfl
@[simp] theorem bytesOf35 : P.bytesOf 35 = 24 := by kernel_rfl
@[simp] theorem hasZero35 : hasZero P 35 = true := by kernel_rfl
@[simp] theorem zeroL35 : zeroL P 35 = [(Value.slice none 0 0)] := by kernel_rfl
@[simp] theorem sliceE35 : sliceE P 35 = some 3 := by kernel_rfl
@[simp] theorem tyOk47 : tyOk P 47 = true := by kernel_rfl
@[simp] theorem isAggB47 : isAggB P 47 = false := by kernel_rfl
@[simp] theorem cellsOf47 : P.cellsOf 47 = 1 := by kernel_rfl
@[simp] theorem bytesOf47 : P.bytesOf 47 = 8 := by kernel_rfl
@[simp] theorem hasZero47 : hasZero P 47 = true := by kernel_rfl
@[simp] theorem zeroL47 : zeroL P 47 = [(Value.int IntKind.i64 0)] := by kernel_rfl
@[simp] theorem intK47 : intK P 47 = some IntKind.i64 := by kernel_rfl
@[simp] theorem und47 : P.underlying 47 = some (.int .i64) := by kernel_rfl
@[simp] theorem tyOk58 : tyOk P 58 = true := by kernel_rfl
@[simp] theorem isAggB58 : isAggB P 58 = false := by kernel_rfl
@[simp] theorem cellsOf58 : P.cellsOf 58 = 1 := by kernel_rfl
@[simp] theorem bytesOf58 : P.bytesOf 58 = 8 := by kernel_rfl
@[simp] theorem hasZero58 : hasZero P 58 = true := by kernel_rfl
@[simp] theorem zeroL58 : zeroL P 58 = [(Value.int IntKind.u64 0)] := by kernel_rfl
@[simp] theorem intK58 : intK P 58 = some IntKind.u64 := by kernel_rfl
@[simp] theorem und58 : P.underlying 58 = some (.int .u64) := by kernel_rfl
@[simp] theorem tyOk69 : tyOk P 69 = true := by kernel_rfl
@[simp] theorem isAggB69 : isAggB P 69 = true := by kernel_rfl
@[simp] theorem cellsOf69 : P.cellsOf 69 = 1 := by kernel_rfl
@[simp] theorem bytesOf69 : P.bytesOf 69 = 24 := by kernel_rfl
@[simp] theorem hasZero69 : hasZero P 69 = true := by kernel_rfl
@[simp] theorem zeroL69 : zeroL P 69 = [(Value.slice none 0 0)] := by kernel_rfl
@[simp] theorem eqg69 : P.eqGuardType P.depth 69 = false := by kernel_rfl
@[simp] theorem field69n0 : fieldB P 69 0 = some (0, 28) := by kernel_rfl
@[simp] theorem tyOk71 : tyOk P 71 = true := by kernel_rfl
@[simp] theorem isAggB71 : isAggB P 71 = false := by kernel_rfl
@[simp] theorem cellsOf71 : P.cellsOf 71 = 1 := by kernel_rfl
@[simp] theorem bytesOf71 : P.bytesOf 71 = 8 := by kernel_rfl
@[simp] theorem hasZero71 : hasZero P 71 = true := by kernel_rfl
@[simp] theorem zeroL71 : zeroL P 71 = [(Value.pointer none)] := by kernel_rfl
@[simp] theorem und71 : P.underlying 71 = some (.pointer 69) := by kernel_rfl
@[simp] theorem tyOk80 : tyOk P 80 = true := by kernel_rfl
@[simp] theorem isAggB80 : isAggB P 80 = true := by kernel_rfl
@[simp] theorem cellsOf80 : P.cellsOf 80 = 2 := by kernel_rfl
@[simp] theorem bytesOf80 : P.bytesOf 80 = 24 := by kernel_rfl
@[simp] theorem hasZero80 : hasZero P 80 = true := by kernel_rfl
@[simp] theorem zeroL80 : zeroL P 80 = [(Value.float FloatKind.f64 0), (Value.string ByteArray.empty)] := by kernel_rfl
@[simp] theorem eqg80 : P.eqGuardType P.depth 80 = false := by kernel_rfl
@[simp] theorem field80n0 : fieldB P 80 0 = some (0, 22) := by kernel_rfl
@[simp] theorem field80n1 : fieldB P 80 1 = some (1, 9) := by kernel_rfl
@[simp] theorem tyOk97 : tyOk P 97 = true := by kernel_rfl
@[simp] theorem isAggB97 : isAggB P 97 = true := by kernel_rfl
@[simp] theorem cellsOf97 : P.cellsOf 97 = 3 := by kernel_rfl
@[simp] theorem bytesOf97 : P.bytesOf 97 = 40 := by kernel_rfl
@[simp] theorem hasZero97 : hasZero P 97 = true := by kernel_rfl
@[simp] theorem zeroL97 : zeroL P 97 = [(Value.string ByteArray.empty), (Value.int IntKind.i64 0), (Value.string ByteArray.empty)] := by kernel_rfl
@[simp] theorem eqg97 : P.eqGuardType P.depth 97 = false := by kernel_rfl
@[simp] theorem field97n0 : fieldB P 97 0 = some (0, 9) := by kernel_rfl
@[simp] theorem field97n1 : fieldB P 97 1 = some (1, 3) := by kernel_rfl
@[simp] theorem field97n2 : fieldB P 97 2 = some (2, 9) := by kernel_rfl
@[simp] theorem tyOk108 : tyOk P 108 = true := by kernel_rfl
@[simp] theorem isAggB108 : isAggB P 108 = true := by kernel_rfl
@[simp] theorem cellsOf108 : P.cellsOf 108 = 5 := by kernel_rfl
@[simp] theorem bytesOf108 : P.bytesOf 108 = 5 := by kernel_rfl
@[simp] theorem hasZero108 : hasZero P 108 = true := by kernel_rfl
@[simp] theorem zeroL108 : zeroL P 108 = [(Value.bool false), (Value.bool false), (Value.bool false), (Value.bool false), (Value.bool false)] := by kernel_rfl
@[simp] theorem eqg108 : P.eqGuardType P.depth 108 = false := by kernel_rfl
@[simp] theorem field108n0 : fieldB P 108 0 = some (0, 4) := by kernel_rfl
@[simp] theorem field108n1 : fieldB P 108 1 = some (1, 4) := by kernel_rfl
@[simp] theorem field108n2 : fieldB P 108 2 = some (2, 4) := by kernel_rfl
@[simp] theorem field108n3 : fieldB P 108 3 = some (3, 4) := by kernel_rfl
@[simp] theorem field108n4 : fieldB P 108 4 = some (4, 4) := by kernel_rfl
@[simp] theorem tyOk129 : tyOk P 129 = true := by kernel_rfl
@[simp] theorem isAggB129 : isAggB P 129 = true := by kernel_rfl
@[simp] theorem cellsOf129 : P.cellsOf 129 = 66 := by kernel_rfl
@[simp] theorem bytesOf129 : P.bytesOf 129 = 880 := by kernel_rfl
@[simp] theorem hasZero129 : hasZero P 129 = true := by kernel_rfl
@[simp] theorem zeroL129 : zeroL P 129 = [(Value.string ByteArray.empty), (Value.int IntKind.i64 0), (Value.string ByteArray.empty), (Value.string ByteArray.empty), (Value.int IntKind.i64 0), (Value.string ByteArray.empty), (Value.string ByteArray.empty), (Value.int IntKind.i64 0), (Value.string ByteArray.empty), (Value.string ByteArray.empty), (Value.int IntKind.i64 0), (Value.string ByteArray.empty), (Value.string ByteArray.empty), (Value.int IntKind.i64 0), (Value.string ByteArray.empty), (Value.string ByteArray.empty), (Value.int IntKind.i64 0), (Value.string ByteArray.empty), (Value.string ByteArray.empty), (Value.int IntKind.i64 0), (Value.string ByteArray.empty), (Value.string ByteArray.empty), (Value.int IntKind.i64 0), (Value.string ByteArray.empty), (Value.string ByteArray.empty), (Value.int IntKind.i64 0), (Value.string ByteArray.empty), (Value.string ByteArray.empty), (Value.int IntKind.i64 0), (Value.string ByteArray.empty), (Value.string ByteArray.empty), (Value.int IntKind.i64 0), (Value.string ByteArray.empty), (Value.string ByteArray.empty), (Value.int IntKind.i64 0), (Value.string ByteArray.empty), (Value.string ByteArray.empty), (Value.int IntKind.i64 0), (Value.string ByteArray.empty), (Value.string ByteArray.empty), (Value.int IntKind.i64 0), (Value.string ByteArray.empty), (Value.string ByteArray.empty), (Value.int IntKind.i64 0), (Value.string ByteArray.empty), (Value.string ByteArray.empty), (Value.int IntKind.i64 0), (Value.string ByteArray.empty), (Value.string ByteArray.empty), (Value.int IntKind.i64 0), (Value.string ByteArray.empty), (Value.string ByteArray.empty), (Value.int IntKind.i64 0), (Value.string ByteArray.empty), (Value.string ByteArray.empty), (Value.int IntKind.i64 0), (Value.string ByteArray.empty), (Value.string ByteArray.empty), (Value.int IntKind.i64 0), (Value.string ByteArray.empty), (Value.string ByteArray.empty), (Value.int IntKind.i64 0), (Value.string ByteArray.empty), (Value.string ByteArray.empty), (Value.int IntKind.i64 0), (Value.string ByteArray.empty)] := by kernel_rfl
@[simp] theorem arrE129 : arrE P 129 = some (22, 97) := by kernel_rfl
@[simp] theorem und129 : P.underlying 129 = some (.array 22 97) := by kernel_rfl
@[simp] theorem eqg129 : P.eqGuardType P.depth 129 = false := by kernel_rfl
@[simp] theorem tyOk131 : tyOk P 131 = true := by kernel_rfl
@[simp] theorem isAggB131 : isAggB P 131 = false := by kernel_rfl
@[simp] theorem cellsOf131 : P.cellsOf 131 = 1 := by kernel_rfl
@[simp] theorem bytesOf131 : P.bytesOf 131 = 24 := by kernel_rfl
@[simp] theorem hasZero131 : hasZero P 131 = true := by kernel_rfl
@[simp] theorem zeroL131 : zeroL P 131 = [(Value.slice none 0 0)] := by kernel_rfl
@[simp] theorem sliceE131 : sliceE P 131 = some 9 := by kernel_rfl
@[simp] theorem al2 : pAlloc P 2 w = some (pt (sz w) 0, nw w ([(Value.int IntKind.i64 0)]) 2) := by rw [pAlloc_eq hasZero2, zeroL2]
@[simp] theorem ld2 (h : i < (mm w b).length) : pLoad P 2 (pt b i) w = some (gt (mm w b) i, w) := pLoad_scal tyOk2 isAggB2 h
@[simp] theorem st2 (hv : v.oneCell' = true) (hf : fz w b = false) (hi : i < (mm w b).length) : pStore P 2 (pt b i) v w = some (wr w b ((mm w b).set i v)) := pStore_one tyOk2 cellsOf2 hv hf hi
@[simp] theorem cv2 {s : TypeId} (hs : tyOk P s = true) : pConv P s 2 (.int k x) w = some (.int .i64 (IntKind.wrap .i64 x), w) := pConv_int hs intK2
@[simp] theorem al3 : pAlloc P 3 w = some (pt (sz w) 0, nw w ([(Value.int IntKind.i64 0)]) 3) := by rw [pAlloc_eq hasZero3, zeroL3]
@[simp] theorem ld3 (h : i < (mm w b).length) : pLoad P 3 (pt b i) w = some (gt (mm w b) i, w) := pLoad_scal tyOk3 isAggB3 h
@[simp] theorem st3 (hv : v.oneCell' = true) (hf : fz w b = false) (hi : i < (mm w b).length) : pStore P 3 (pt b i) v w = some (wr w b ((mm w b).set i v)) := pStore_one tyOk3 cellsOf3 hv hf hi
@[simp] theorem cv3 {s : TypeId} (hs : tyOk P s = true) : pConv P s 3 (.int k x) w = some (.int .i64 (IntKind.wrap .i64 x), w) := pConv_int hs intK3
@[simp] theorem al4 : pAlloc P 4 w = some (pt (sz w) 0, nw w ([(Value.bool false)]) 4) := by rw [pAlloc_eq hasZero4, zeroL4]
@[simp] theorem ld4 (h : i < (mm w b).length) : pLoad P 4 (pt b i) w = some (gt (mm w b) i, w) := pLoad_scal tyOk4 isAggB4 h
@[simp] theorem st4 (hv : v.oneCell' = true) (hf : fz w b = false) (hi : i < (mm w b).length) : pStore P 4 (pt b i) v w = some (wr w b ((mm w b).set i v)) := pStore_one tyOk4 cellsOf4 hv hf hi
@[simp] theorem al5 : pAlloc P 5 w = some (pt (sz w) 0, nw w ([(Value.int IntKind.u8 0)]) 5) := by rw [pAlloc_eq hasZero5, zeroL5]
@[simp] theorem ld5 (h : i < (mm w b).length) : pLoad P 5 (pt b i) w = some (gt (mm w b) i, w) := pLoad_scal tyOk5 isAggB5 h
@[simp] theorem st5 (hv : v.oneCell' = true) (hf : fz w b = false) (hi : i < (mm w b).length) : pStore P 5 (pt b i) v w = some (wr w b ((mm w b).set i v)) := pStore_one tyOk5 cellsOf5 hv hf hi
@[simp] theorem cv5 {s : TypeId} (hs : tyOk P s = true) : pConv P s 5 (.int k x) w = some (.int .u8 (IntKind.wrap .u8 x), w) := pConv_int hs intK5
@[simp] theorem al9 : pAlloc P 9 w = some (pt (sz w) 0, nw w ([(Value.string ByteArray.empty)]) 9) := by rw [pAlloc_eq hasZero9, zeroL9]
@[simp] theorem ld9 (h : i < (mm w b).length) : pLoad P 9 (pt b i) w = some (gt (mm w b) i, w) := pLoad_scal tyOk9 isAggB9 h
@[simp] theorem st9 (hv : v.oneCell' = true) (hf : fz w b = false) (hi : i < (mm w b).length) : pStore P 9 (pt b i) v w = some (wr w b ((mm w b).set i v)) := pStore_one tyOk9 cellsOf9 hv hf hi
@[simp] theorem al22 : pAlloc P 22 w = some (pt (sz w) 0, nw w ([(Value.float FloatKind.f64 0)]) 22) := by rw [pAlloc_eq hasZero22, zeroL22]
@[simp] theorem ld22 (h : i < (mm w b).length) : pLoad P 22 (pt b i) w = some (gt (mm w b) i, w) := pLoad_scal tyOk22 isAggB22 h
@[simp] theorem st22 (hv : v.oneCell' = true) (hf : fz w b = false) (hi : i < (mm w b).length) : pStore P 22 (pt b i) v w = some (wr w b ((mm w b).set i v)) := pStore_one tyOk22 cellsOf22 hv hf hi
@[simp] theorem al23 : pAlloc P 23 w = some (pt (sz w) 0, nw w ([(Value.slice none 0 0)]) 23) := by rw [pAlloc_eq hasZero23, zeroL23]
@[simp] theorem ld23 (h : i < (mm w b).length) : pLoad P 23 (pt b i) w = some (gt (mm w b) i, w) := pLoad_scal tyOk23 isAggB23 h
@[simp] theorem st23 (hv : v.oneCell' = true) (hf : fz w b = false) (hi : i < (mm w b).length) : pStore P 23 (pt b i) v w = some (wr w b ((mm w b).set i v)) := pStore_one tyOk23 cellsOf23 hv hf hi
@[simp] theorem ia23 (h0 : 0 ≤ j) (h1 : j < n) : pIndexAddr P 23 (sl b o n c) (.int k j) w = some (pt b (o + j.toNat * 2), w) := by
  have := pIndexAddr_slice (w := w) (b := b) (o := o) (c := c) (k := k) sliceE23 tyOk80 h0 h1; rwa [cellsOf80] at this
@[simp] theorem len23 {ty : TypeId} {a : Option Addr} : pBuiltin P .len #[23] ty [.slice a n c] w = some (i64 n, w) := len_slice sliceE23
@[simp] theorem slL23 (h0 : 0 ≤ x) (h1 : x ≤ (n : Int)) (hnc : n ≤ c) : pSlice P 23 (sl b o n c) (some (.int k x)) none none w = some (.slice (some ⟨b, if c = x.toNat then o else o + x.toNat * 2, none⟩) (n - x.toNat) (c - x.toNat), w) := by
  have := pSlice_slice (P := P) (t := 23) (w := w) (b := b) (o := o) (lo := (some (.int k x))) (hi := none) sliceE23 tyOk80 rfl rfl h0 h1 (by simp [bHi]; omega) hnc; simpa [bLo, bHi] using this
@[simp] theorem slH23 {k' : IntKind} {y : Int} (h0 : 0 ≤ y) (h1 : y ≤ (c : Int)) (hnc : n ≤ c) : pSlice P 23 (sl b o n c) none (some (.int k' y)) none w = some (.slice (some ⟨b, o, none⟩) (y.toNat) (c), w) := by
  have := pSlice_slice (P := P) (t := 23) (w := w) (b := b) (o := o) (lo := none) (hi := (some (.int k' y))) sliceE23 tyOk80 rfl rfl (Int.le_refl 0) h0 h1 hnc; simpa [bLo, bHi] using this
@[simp] theorem slB23 {k' : IntKind} {y : Int} (h0 : 0 ≤ x) (h1 : x ≤ y) (h2 : y ≤ (c : Int)) (hnc : n ≤ c) : pSlice P 23 (sl b o n c) (some (.int k x)) (some (.int k' y)) none w = some (.slice (some ⟨b, if c = x.toNat then o else o + x.toNat * 2, none⟩) (y.toNat - x.toNat) (c - x.toNat), w) := by
  have := pSlice_slice (P := P) (t := 23) (w := w) (b := b) (o := o) (lo := (some (.int k x))) (hi := (some (.int k' y))) sliceE23 tyOk80 rfl rfl h0 h1 h2 hnc; simpa [bLo, bHi] using this
@[simp] theorem slN23  (hnc : n ≤ c) : pSlice P 23 (sl b o n c) none none none w = some (.slice (some ⟨b, o, none⟩) (n) (c), w) := by
  have := pSlice_slice (P := P) (t := 23) (w := w) (b := b) (o := o) (lo := none) (hi := none) sliceE23 tyOk80 rfl rfl (Int.le_refl 0) (by simp [bLo, bHi]) (by simp [bHi]; omega) hnc; simpa [bLo, bHi] using this
@[simp] theorem bsl23 {ps : List (Nat × Value)} (hbig : n * 2 ≤ 2 ^ 24) (hp : ∀ p ∈ ps, p.2.cells.size = 2 ∧ p.1 < n) : pBuildSlice P 23 n ps w = some (sl (sz w) 0 n n,
    nw w (ps.foldl (fun l p => splice l (p.1 * 2) p.2.cells.toList) (List.replicate n ([(Value.float FloatKind.f64 0), (Value.string ByteArray.empty)])).flatten) 80) := by
  have := pBuildSlice_eq (w := w) sliceE23 hasZero80 tyOk80 cellsOf80 (by rw [zeroL80]; rfl) hbig hp; rwa [zeroL80] at this
@[simp] theorem al25 : pAlloc P 25 w = some (pt (sz w) 0, nw w ([(Value.int IntKind.i64 0), (Value.int IntKind.i64 0), (Value.int IntKind.i64 0), (Value.int IntKind.i64 0), (Value.float FloatKind.f64 0), (Value.int IntKind.i64 0), (Value.string ByteArray.empty), (Value.slice none 0 0)]) 25) := by rw [pAlloc_eq hasZero25, zeroL25]
@[simp] theorem ld25 (h : i + 8 ≤ (mm w b).length) : pLoad P 25 (pt b i) w = some (.agg (((mm w b).drop i).take 8).toArray, w) := by
  have := pLoad_agg (w := w) (b := b) (i := i) tyOk25 isAggB25 (by rw [cellsOf25]; exact h); rwa [cellsOf25] at this
@[simp] theorem st25 (hs : a.size = 8) (hv : ∀ v ∈ a.toList, v.oneCell' = true) (hf : fz w b = false) (hi : i + 8 ≤ (mm w b).length) : pStore P 25 (pt b i) (.agg a) w = some (wr w b (splice (mm w b) i a.toList)) :=
  pStore_agg tyOk25 (by rw [cellsOf25, hs]) hv hf (by rw [hs]; exact hi)
@[simp] theorem bf25 {ps : List (Nat × Value)} (hp : ∀ p ∈ ps, p.1 < 8 ∧ p.2.oneCell' = true) : pBuild P 25 ps w = some (.agg (ps.foldl (fun l p => l.set p.1 p.2) ([(Value.int IntKind.i64 0), (Value.int IntKind.i64 0), (Value.int IntKind.i64 0), (Value.int IntKind.i64 0), (Value.float FloatKind.f64 0), (Value.int IntKind.i64 0), (Value.string ByteArray.empty), (Value.slice none 0 0)])).toArray, w) := by
  have := pBuild_flat (w := w) (ps := ps) hasZero25 (by kernel_rfl) (by kernel_rfl) (by rw [zeroL25]; exact hp); rwa [zeroL25] at this
@[simp] theorem fa25n0 : pFieldAddr P 25 (pt b i) 0 w = some (pt b (i + 0), w) := pFieldAddr_eq field25n0 tyOk3 (by rw [cellsOf3]; rfl)
@[simp] theorem fi25n0 (h : 0 < a.size) : pField P 25 (.agg a) 0 w = some (gt a.toList 0, w) := pField_scal field25n0 tyOk3 isAggB3 h
@[simp] theorem fa25n1 : pFieldAddr P 25 (pt b i) 1 w = some (pt b (i + 1), w) := pFieldAddr_eq field25n1 tyOk2 (by rw [cellsOf2]; rfl)
@[simp] theorem fi25n1 (h : 1 < a.size) : pField P 25 (.agg a) 1 w = some (gt a.toList 1, w) := pField_scal field25n1 tyOk2 isAggB2 h
@[simp] theorem fa25n2 : pFieldAddr P 25 (pt b i) 2 w = some (pt b (i + 2), w) := pFieldAddr_eq field25n2 tyOk2 (by rw [cellsOf2]; rfl)
@[simp] theorem fi25n2 (h : 2 < a.size) : pField P 25 (.agg a) 2 w = some (gt a.toList 2, w) := pField_scal field25n2 tyOk2 isAggB2 h
@[simp] theorem fa25n3 : pFieldAddr P 25 (pt b i) 3 w = some (pt b (i + 3), w) := pFieldAddr_eq field25n3 tyOk2 (by rw [cellsOf2]; rfl)
@[simp] theorem fi25n3 (h : 3 < a.size) : pField P 25 (.agg a) 3 w = some (gt a.toList 3, w) := pField_scal field25n3 tyOk2 isAggB2 h
@[simp] theorem fa25n4 : pFieldAddr P 25 (pt b i) 4 w = some (pt b (i + 4), w) := pFieldAddr_eq field25n4 tyOk22 (by rw [cellsOf22]; rfl)
@[simp] theorem fi25n4 (h : 4 < a.size) : pField P 25 (.agg a) 4 w = some (gt a.toList 4, w) := pField_scal field25n4 tyOk22 isAggB22 h
@[simp] theorem fa25n5 : pFieldAddr P 25 (pt b i) 5 w = some (pt b (i + 5), w) := pFieldAddr_eq field25n5 tyOk3 (by rw [cellsOf3]; rfl)
@[simp] theorem fi25n5 (h : 5 < a.size) : pField P 25 (.agg a) 5 w = some (gt a.toList 5, w) := pField_scal field25n5 tyOk3 isAggB3 h
@[simp] theorem fa25n6 : pFieldAddr P 25 (pt b i) 6 w = some (pt b (i + 6), w) := pFieldAddr_eq field25n6 tyOk9 (by rw [cellsOf9]; rfl)
@[simp] theorem fi25n6 (h : 6 < a.size) : pField P 25 (.agg a) 6 w = some (gt a.toList 6, w) := pField_scal field25n6 tyOk9 isAggB9 h
@[simp] theorem fa25n7 : pFieldAddr P 25 (pt b i) 7 w = some (pt b (i + 7), w) := pFieldAddr_eq field25n7 tyOk23 (by rw [cellsOf23]; rfl)
@[simp] theorem fi25n7 (h : 7 < a.size) : pField P 25 (.agg a) 7 w = some (gt a.toList 7, w) := pField_scal field25n7 tyOk23 isAggB23 h
@[simp] theorem al27 : pAlloc P 27 w = some (pt (sz w) 0, nw w ([(Value.int IntKind.i64 0), (Value.string ByteArray.empty), (Value.int IntKind.i64 0), (Value.float FloatKind.f64 0), (Value.string ByteArray.empty), (Value.int IntKind.i64 0), (Value.int IntKind.i64 0), (Value.int IntKind.i64 0), (Value.int IntKind.i64 0), (Value.float FloatKind.f64 0), (Value.int IntKind.i64 0), (Value.string ByteArray.empty), (Value.slice none 0 0)] ++ List.replicate 1 (Value.bool false)) 27) := by rw [pAlloc_eq hasZero27, zeroL27]
@[simp] theorem ld27 (h : i + 14 ≤ (mm w b).length) : pLoad P 27 (pt b i) w = some (.agg (((mm w b).drop i).take 14).toArray, w) := by
  have := pLoad_agg (w := w) (b := b) (i := i) tyOk27 isAggB27 (by rw [cellsOf27]; exact h); rwa [cellsOf27] at this
@[simp] theorem st27 (hs : a.size = 14) (hv : ∀ v ∈ a.toList, v.oneCell' = true) (hf : fz w b = false) (hi : i + 14 ≤ (mm w b).length) : pStore P 27 (pt b i) (.agg a) w = some (wr w b (splice (mm w b) i a.toList)) :=
  pStore_agg tyOk27 (by rw [cellsOf27, hs]) hv hf (by rw [hs]; exact hi)
@[simp] theorem fa27n0 : pFieldAddr P 27 (pt b i) 0 w = some (pt b (i + 0), w) := pFieldAddr_eq field27n0 tyOk3 (by rw [cellsOf3]; rfl)
@[simp] theorem fi27n0 (h : 0 < a.size) : pField P 27 (.agg a) 0 w = some (gt a.toList 0, w) := pField_scal field27n0 tyOk3 isAggB3 h
@[simp] theorem fa27n1 : pFieldAddr P 27 (pt b i) 1 w = some (pt b (i + 1), w) := pFieldAddr_eq field27n1 tyOk9 (by rw [cellsOf9]; rfl)
@[simp] theorem fi27n1 (h : 1 < a.size) : pField P 27 (.agg a) 1 w = some (gt a.toList 1, w) := pField_scal field27n1 tyOk9 isAggB9 h
@[simp] theorem fa27n2 : pFieldAddr P 27 (pt b i) 2 w = some (pt b (i + 2), w) := pFieldAddr_eq field27n2 tyOk2 (by rw [cellsOf2]; rfl)
@[simp] theorem fi27n2 (h : 2 < a.size) : pField P 27 (.agg a) 2 w = some (gt a.toList 2, w) := pField_scal field27n2 tyOk2 isAggB2 h
@[simp] theorem fa27n3 : pFieldAddr P 27 (pt b i) 3 w = some (pt b (i + 3), w) := pFieldAddr_eq field27n3 tyOk22 (by rw [cellsOf22]; rfl)
@[simp] theorem fi27n3 (h : 3 < a.size) : pField P 27 (.agg a) 3 w = some (gt a.toList 3, w) := pField_scal field27n3 tyOk22 isAggB22 h
@[simp] theorem fa27n4 : pFieldAddr P 27 (pt b i) 4 w = some (pt b (i + 4), w) := pFieldAddr_eq field27n4 tyOk9 (by rw [cellsOf9]; rfl)
@[simp] theorem fi27n4 (h : 4 < a.size) : pField P 27 (.agg a) 4 w = some (gt a.toList 4, w) := pField_scal field27n4 tyOk9 isAggB9 h
@[simp] theorem fa27n5 : pFieldAddr P 27 (pt b i) 5 w = some (pt b (i + 5), w) := pFieldAddr_eq field27n5 tyOk25 (by rw [cellsOf25]; rfl)
@[simp] theorem fi27n5 : pField P 27 (.agg a) 5 w = some (.agg ((a.toList.drop 5).take 8).toArray, w) := by
  have := pField_agg (w := w) (x := a) field27n5 tyOk25 isAggB25; rwa [cellsOf25] at this
@[simp] theorem fa27n6 : pFieldAddr P 27 (pt b i) 6 w = some (pt b (i + 13), w) := pFieldAddr_eq field27n6 tyOk4 (by rw [cellsOf4]; rfl)
@[simp] theorem fi27n6 (h : 13 < a.size) : pField P 27 (.agg a) 6 w = some (gt a.toList 13, w) := pField_scal field27n6 tyOk4 isAggB4 h
@[simp] theorem al28 : pAlloc P 28 w = some (pt (sz w) 0, nw w ([(Value.slice none 0 0)]) 28) := by rw [pAlloc_eq hasZero28, zeroL28]
@[simp] theorem ld28 (h : i < (mm w b).length) : pLoad P 28 (pt b i) w = some (gt (mm w b) i, w) := pLoad_scal tyOk28 isAggB28 h
@[simp] theorem st28 (hv : v.oneCell' = true) (hf : fz w b = false) (hi : i < (mm w b).length) : pStore P 28 (pt b i) v w = some (wr w b ((mm w b).set i v)) := pStore_one tyOk28 cellsOf28 hv hf hi
@[simp] theorem ia28 (h0 : 0 ≤ j) (h1 : j < n) : pIndexAddr P 28 (sl b o n c) (.int k j) w = some (pt b (o + j.toNat * 1), w) := by
  have := pIndexAddr_slice (w := w) (b := b) (o := o) (c := c) (k := k) sliceE28 tyOk5 h0 h1; rwa [cellsOf5] at this
@[simp] theorem len28 {ty : TypeId} {a : Option Addr} : pBuiltin P .len #[28] ty [.slice a n c] w = some (i64 n, w) := len_slice sliceE28
@[simp] theorem slL28 (h0 : 0 ≤ x) (h1 : x ≤ (n : Int)) (hnc : n ≤ c) : pSlice P 28 (sl b o n c) (some (.int k x)) none none w = some (.slice (some ⟨b, if c = x.toNat then o else o + x.toNat * 1, none⟩) (n - x.toNat) (c - x.toNat), w) := by
  have := pSlice_slice (P := P) (t := 28) (w := w) (b := b) (o := o) (lo := (some (.int k x))) (hi := none) sliceE28 tyOk5 rfl rfl h0 h1 (by simp [bHi]; omega) hnc; simpa [bLo, bHi] using this
@[simp] theorem slH28 {k' : IntKind} {y : Int} (h0 : 0 ≤ y) (h1 : y ≤ (c : Int)) (hnc : n ≤ c) : pSlice P 28 (sl b o n c) none (some (.int k' y)) none w = some (.slice (some ⟨b, o, none⟩) (y.toNat) (c), w) := by
  have := pSlice_slice (P := P) (t := 28) (w := w) (b := b) (o := o) (lo := none) (hi := (some (.int k' y))) sliceE28 tyOk5 rfl rfl (Int.le_refl 0) h0 h1 hnc; simpa [bLo, bHi] using this
@[simp] theorem slB28 {k' : IntKind} {y : Int} (h0 : 0 ≤ x) (h1 : x ≤ y) (h2 : y ≤ (c : Int)) (hnc : n ≤ c) : pSlice P 28 (sl b o n c) (some (.int k x)) (some (.int k' y)) none w = some (.slice (some ⟨b, if c = x.toNat then o else o + x.toNat * 1, none⟩) (y.toNat - x.toNat) (c - x.toNat), w) := by
  have := pSlice_slice (P := P) (t := 28) (w := w) (b := b) (o := o) (lo := (some (.int k x))) (hi := (some (.int k' y))) sliceE28 tyOk5 rfl rfl h0 h1 h2 hnc; simpa [bLo, bHi] using this
@[simp] theorem slN28  (hnc : n ≤ c) : pSlice P 28 (sl b o n c) none none none w = some (.slice (some ⟨b, o, none⟩) (n) (c), w) := by
  have := pSlice_slice (P := P) (t := 28) (w := w) (b := b) (o := o) (lo := none) (hi := none) sliceE28 tyOk5 rfl rfl (Int.le_refl 0) (by simp [bLo, bHi]) (by simp [bHi]; omega) hnc; simpa [bLo, bHi] using this
@[simp] theorem bsl28 {ps : List (Nat × Value)} (hbig : n * 1 ≤ 2 ^ 24) (hp : ∀ p ∈ ps, p.2.cells.size = 1 ∧ p.1 < n) : pBuildSlice P 28 n ps w = some (sl (sz w) 0 n n,
    nw w (ps.foldl (fun l p => splice l (p.1 * 1) p.2.cells.toList) (List.replicate n ([(Value.int IntKind.u8 0)])).flatten) 5) := by
  have := pBuildSlice_eq (w := w) sliceE28 hasZero5 tyOk5 cellsOf5 (by rw [zeroL5]; rfl) hbig hp; rwa [zeroL5] at this
@[simp] theorem cvs28 : pConv P 28 28 (sl b o n c) w = some (sl b o n c, mkS w b) := conv_same sliceE28 intK5
@[simp] theorem al35 : pAlloc P 35 w = some (pt (sz w) 0, nw w ([(Value.slice none 0 0)]) 35) := by rw [pAlloc_eq hasZero35, zeroL35]
@[simp] theorem ld35 (h : i < (mm w b).length) : pLoad P 35 (pt b i) w = some (gt (mm w b) i, w) := pLoad_scal tyOk35 isAggB35 h
@[simp] theorem st35 (hv : v.oneCell' = true) (hf : fz w b = false) (hi : i < (mm w b).length) : pStore P 35 (pt b i) v w = some (wr w b ((mm w b).set i v)) := pStore_one tyOk35 cellsOf35 hv hf hi
@[simp] theorem ia35 (h0 : 0 ≤ j) (h1 : j < n) : pIndexAddr P 35 (sl b o n c) (.int k j) w = some (pt b (o + j.toNat * 1), w) := by
  have := pIndexAddr_slice (w := w) (b := b) (o := o) (c := c) (k := k) sliceE35 tyOk3 h0 h1; rwa [cellsOf3] at this
@[simp] theorem len35 {ty : TypeId} {a : Option Addr} : pBuiltin P .len #[35] ty [.slice a n c] w = some (i64 n, w) := len_slice sliceE35
@[simp] theorem slL35 (h0 : 0 ≤ x) (h1 : x ≤ (n : Int)) (hnc : n ≤ c) : pSlice P 35 (sl b o n c) (some (.int k x)) none none w = some (.slice (some ⟨b, if c = x.toNat then o else o + x.toNat * 1, none⟩) (n - x.toNat) (c - x.toNat), w) := by
  have := pSlice_slice (P := P) (t := 35) (w := w) (b := b) (o := o) (lo := (some (.int k x))) (hi := none) sliceE35 tyOk3 rfl rfl h0 h1 (by simp [bHi]; omega) hnc; simpa [bLo, bHi] using this
@[simp] theorem slH35 {k' : IntKind} {y : Int} (h0 : 0 ≤ y) (h1 : y ≤ (c : Int)) (hnc : n ≤ c) : pSlice P 35 (sl b o n c) none (some (.int k' y)) none w = some (.slice (some ⟨b, o, none⟩) (y.toNat) (c), w) := by
  have := pSlice_slice (P := P) (t := 35) (w := w) (b := b) (o := o) (lo := none) (hi := (some (.int k' y))) sliceE35 tyOk3 rfl rfl (Int.le_refl 0) h0 h1 hnc; simpa [bLo, bHi] using this
@[simp] theorem slB35 {k' : IntKind} {y : Int} (h0 : 0 ≤ x) (h1 : x ≤ y) (h2 : y ≤ (c : Int)) (hnc : n ≤ c) : pSlice P 35 (sl b o n c) (some (.int k x)) (some (.int k' y)) none w = some (.slice (some ⟨b, if c = x.toNat then o else o + x.toNat * 1, none⟩) (y.toNat - x.toNat) (c - x.toNat), w) := by
  have := pSlice_slice (P := P) (t := 35) (w := w) (b := b) (o := o) (lo := (some (.int k x))) (hi := (some (.int k' y))) sliceE35 tyOk3 rfl rfl h0 h1 h2 hnc; simpa [bLo, bHi] using this
@[simp] theorem slN35  (hnc : n ≤ c) : pSlice P 35 (sl b o n c) none none none w = some (.slice (some ⟨b, o, none⟩) (n) (c), w) := by
  have := pSlice_slice (P := P) (t := 35) (w := w) (b := b) (o := o) (lo := none) (hi := none) sliceE35 tyOk3 rfl rfl (Int.le_refl 0) (by simp [bLo, bHi]) (by simp [bHi]; omega) hnc; simpa [bLo, bHi] using this
@[simp] theorem bsl35 {ps : List (Nat × Value)} (hbig : n * 1 ≤ 2 ^ 24) (hp : ∀ p ∈ ps, p.2.cells.size = 1 ∧ p.1 < n) : pBuildSlice P 35 n ps w = some (sl (sz w) 0 n n,
    nw w (ps.foldl (fun l p => splice l (p.1 * 1) p.2.cells.toList) (List.replicate n ([(Value.int IntKind.i64 0)])).flatten) 3) := by
  have := pBuildSlice_eq (w := w) sliceE35 hasZero3 tyOk3 cellsOf3 (by rw [zeroL3]; rfl) hbig hp; rwa [zeroL3] at this
@[simp] theorem al47 : pAlloc P 47 w = some (pt (sz w) 0, nw w ([(Value.int IntKind.i64 0)]) 47) := by rw [pAlloc_eq hasZero47, zeroL47]
@[simp] theorem ld47 (h : i < (mm w b).length) : pLoad P 47 (pt b i) w = some (gt (mm w b) i, w) := pLoad_scal tyOk47 isAggB47 h
@[simp] theorem st47 (hv : v.oneCell' = true) (hf : fz w b = false) (hi : i < (mm w b).length) : pStore P 47 (pt b i) v w = some (wr w b ((mm w b).set i v)) := pStore_one tyOk47 cellsOf47 hv hf hi
@[simp] theorem cv47 {s : TypeId} (hs : tyOk P s = true) : pConv P s 47 (.int k x) w = some (.int .i64 (IntKind.wrap .i64 x), w) := pConv_int hs intK47
@[simp] theorem al58 : pAlloc P 58 w = some (pt (sz w) 0, nw w ([(Value.int IntKind.u64 0)]) 58) := by rw [pAlloc_eq hasZero58, zeroL58]
@[simp] theorem ld58 (h : i < (mm w b).length) : pLoad P 58 (pt b i) w = some (gt (mm w b) i, w) := pLoad_scal tyOk58 isAggB58 h
@[simp] theorem st58 (hv : v.oneCell' = true) (hf : fz w b = false) (hi : i < (mm w b).length) : pStore P 58 (pt b i) v w = some (wr w b ((mm w b).set i v)) := pStore_one tyOk58 cellsOf58 hv hf hi
@[simp] theorem cv58 {s : TypeId} (hs : tyOk P s = true) : pConv P s 58 (.int k x) w = some (.int .u64 (IntKind.wrap .u64 x), w) := pConv_int hs intK58
@[simp] theorem al69 : pAlloc P 69 w = some (pt (sz w) 0, nw w ([(Value.slice none 0 0)]) 69) := by rw [pAlloc_eq hasZero69, zeroL69]
@[simp] theorem ld69 (h : i + 1 ≤ (mm w b).length) : pLoad P 69 (pt b i) w = some (.agg (((mm w b).drop i).take 1).toArray, w) := by
  have := pLoad_agg (w := w) (b := b) (i := i) tyOk69 isAggB69 (by rw [cellsOf69]; exact h); rwa [cellsOf69] at this
@[simp] theorem st69 (hs : a.size = 1) (hv : ∀ v ∈ a.toList, v.oneCell' = true) (hf : fz w b = false) (hi : i + 1 ≤ (mm w b).length) : pStore P 69 (pt b i) (.agg a) w = some (wr w b (splice (mm w b) i a.toList)) :=
  pStore_agg tyOk69 (by rw [cellsOf69, hs]) hv hf (by rw [hs]; exact hi)
@[simp] theorem bf69 {ps : List (Nat × Value)} (hp : ∀ p ∈ ps, p.1 < 1 ∧ p.2.oneCell' = true) : pBuild P 69 ps w = some (.agg (ps.foldl (fun l p => l.set p.1 p.2) ([(Value.slice none 0 0)])).toArray, w) := by
  have := pBuild_flat (w := w) (ps := ps) hasZero69 (by kernel_rfl) (by kernel_rfl) (by rw [zeroL69]; exact hp); rwa [zeroL69] at this
@[simp] theorem fa69n0 : pFieldAddr P 69 (pt b i) 0 w = some (pt b (i + 0), w) := pFieldAddr_eq field69n0 tyOk28 (by rw [cellsOf28]; rfl)
@[simp] theorem fi69n0 (h : 0 < a.size) : pField P 69 (.agg a) 0 w = some (gt a.toList 0, w) := pField_scal field69n0 tyOk28 isAggB28 h
@[simp] theorem al71 : pAlloc P 71 w = some (pt (sz w) 0, nw w ([(Value.pointer none)]) 71) := by rw [pAlloc_eq hasZero71, zeroL71]
@[simp] theorem ld71 (h : i < (mm w b).length) : pLoad P 71 (pt b i) w = some (gt (mm w b) i, w) := pLoad_scal tyOk71 isAggB71 h
@[simp] theorem st71 (hv : v.oneCell' = true) (hf : fz w b = false) (hi : i < (mm w b).length) : pStore P 71 (pt b i) v w = some (wr w b ((mm w b).set i v)) := pStore_one tyOk71 cellsOf71 hv hf hi
@[simp] theorem eqn71 {lit : Bool} {q : Option Addr} : pBin P .eql 71 lit (.pointer q) (.pointer none) w = some (.bool q.isNone, w) := eqNil und71
@[simp] theorem nen71 {lit : Bool} {q : Option Addr} : pBin P .neq 71 lit (.pointer q) (.pointer none) w = some (.bool q.isSome, w) := neNil und71
@[simp] theorem al80 : pAlloc P 80 w = some (pt (sz w) 0, nw w ([(Value.float FloatKind.f64 0), (Value.string ByteArray.empty)]) 80) := by rw [pAlloc_eq hasZero80, zeroL80]
@[simp] theorem ld80 (h : i + 2 ≤ (mm w b).length) : pLoad P 80 (pt b i) w = some (.agg (((mm w b).drop i).take 2).toArray, w) := by
  have := pLoad_agg (w := w) (b := b) (i := i) tyOk80 isAggB80 (by rw [cellsOf80]; exact h); rwa [cellsOf80] at this
@[simp] theorem st80 (hs : a.size = 2) (hv : ∀ v ∈ a.toList, v.oneCell' = true) (hf : fz w b = false) (hi : i + 2 ≤ (mm w b).length) : pStore P 80 (pt b i) (.agg a) w = some (wr w b (splice (mm w b) i a.toList)) :=
  pStore_agg tyOk80 (by rw [cellsOf80, hs]) hv hf (by rw [hs]; exact hi)
@[simp] theorem bf80 {ps : List (Nat × Value)} (hp : ∀ p ∈ ps, p.1 < 2 ∧ p.2.oneCell' = true) : pBuild P 80 ps w = some (.agg (ps.foldl (fun l p => l.set p.1 p.2) ([(Value.float FloatKind.f64 0), (Value.string ByteArray.empty)])).toArray, w) := by
  have := pBuild_flat (w := w) (ps := ps) hasZero80 (by kernel_rfl) (by kernel_rfl) (by rw [zeroL80]; exact hp); rwa [zeroL80] at this
@[simp] theorem fa80n0 : pFieldAddr P 80 (pt b i) 0 w = some (pt b (i + 0), w) := pFieldAddr_eq field80n0 tyOk22 (by rw [cellsOf22]; rfl)
@[simp] theorem fi80n0 (h : 0 < a.size) : pField P 80 (.agg a) 0 w = some (gt a.toList 0, w) := pField_scal field80n0 tyOk22 isAggB22 h
@[simp] theorem fa80n1 : pFieldAddr P 80 (pt b i) 1 w = some (pt b (i + 1), w) := pFieldAddr_eq field80n1 tyOk9 (by rw [cellsOf9]; rfl)
@[simp] theorem fi80n1 (h : 1 < a.size) : pField P 80 (.agg a) 1 w = some (gt a.toList 1, w) := pField_scal field80n1 tyOk9 isAggB9 h
@[simp] theorem al97 : pAlloc P 97 w = some (pt (sz w) 0, nw w ([(Value.string ByteArray.empty), (Value.int IntKind.i64 0), (Value.string ByteArray.empty)]) 97) := by rw [pAlloc_eq hasZero97, zeroL97]
@[simp] theorem ld97 (h : i + 3 ≤ (mm w b).length) : pLoad P 97 (pt b i) w = some (.agg (((mm w b).drop i).take 3).toArray, w) := by
  have := pLoad_agg (w := w) (b := b) (i := i) tyOk97 isAggB97 (by rw [cellsOf97]; exact h); rwa [cellsOf97] at this
@[simp] theorem st97 (hs : a.size = 3) (hv : ∀ v ∈ a.toList, v.oneCell' = true) (hf : fz w b = false) (hi : i + 3 ≤ (mm w b).length) : pStore P 97 (pt b i) (.agg a) w = some (wr w b (splice (mm w b) i a.toList)) :=
  pStore_agg tyOk97 (by rw [cellsOf97, hs]) hv hf (by rw [hs]; exact hi)
@[simp] theorem bf97 {ps : List (Nat × Value)} (hp : ∀ p ∈ ps, p.1 < 3 ∧ p.2.oneCell' = true) : pBuild P 97 ps w = some (.agg (ps.foldl (fun l p => l.set p.1 p.2) ([(Value.string ByteArray.empty), (Value.int IntKind.i64 0), (Value.string ByteArray.empty)])).toArray, w) := by
  have := pBuild_flat (w := w) (ps := ps) hasZero97 (by kernel_rfl) (by kernel_rfl) (by rw [zeroL97]; exact hp); rwa [zeroL97] at this
@[simp] theorem fa97n0 : pFieldAddr P 97 (pt b i) 0 w = some (pt b (i + 0), w) := pFieldAddr_eq field97n0 tyOk9 (by rw [cellsOf9]; rfl)
@[simp] theorem fi97n0 (h : 0 < a.size) : pField P 97 (.agg a) 0 w = some (gt a.toList 0, w) := pField_scal field97n0 tyOk9 isAggB9 h
@[simp] theorem fa97n1 : pFieldAddr P 97 (pt b i) 1 w = some (pt b (i + 1), w) := pFieldAddr_eq field97n1 tyOk3 (by rw [cellsOf3]; rfl)
@[simp] theorem fi97n1 (h : 1 < a.size) : pField P 97 (.agg a) 1 w = some (gt a.toList 1, w) := pField_scal field97n1 tyOk3 isAggB3 h
@[simp] theorem fa97n2 : pFieldAddr P 97 (pt b i) 2 w = some (pt b (i + 2), w) := pFieldAddr_eq field97n2 tyOk9 (by rw [cellsOf9]; rfl)
@[simp] theorem fi97n2 (h : 2 < a.size) : pField P 97 (.agg a) 2 w = some (gt a.toList 2, w) := pField_scal field97n2 tyOk9 isAggB9 h
@[simp] theorem al108 : pAlloc P 108 w = some (pt (sz w) 0, nw w ([(Value.bool false), (Value.bool false), (Value.bool false), (Value.bool false), (Value.bool false)]) 108) := by rw [pAlloc_eq hasZero108, zeroL108]
@[simp] theorem ld108 (h : i + 5 ≤ (mm w b).length) : pLoad P 108 (pt b i) w = some (.agg (((mm w b).drop i).take 5).toArray, w) := by
  have := pLoad_agg (w := w) (b := b) (i := i) tyOk108 isAggB108 (by rw [cellsOf108]; exact h); rwa [cellsOf108] at this
@[simp] theorem st108 (hs : a.size = 5) (hv : ∀ v ∈ a.toList, v.oneCell' = true) (hf : fz w b = false) (hi : i + 5 ≤ (mm w b).length) : pStore P 108 (pt b i) (.agg a) w = some (wr w b (splice (mm w b) i a.toList)) :=
  pStore_agg tyOk108 (by rw [cellsOf108, hs]) hv hf (by rw [hs]; exact hi)
@[simp] theorem bf108 {ps : List (Nat × Value)} (hp : ∀ p ∈ ps, p.1 < 5 ∧ p.2.oneCell' = true) : pBuild P 108 ps w = some (.agg (ps.foldl (fun l p => l.set p.1 p.2) ([(Value.bool false), (Value.bool false), (Value.bool false), (Value.bool false), (Value.bool false)])).toArray, w) := by
  have := pBuild_flat (w := w) (ps := ps) hasZero108 (by kernel_rfl) (by kernel_rfl) (by rw [zeroL108]; exact hp); rwa [zeroL108] at this
@[simp] theorem fa108n0 : pFieldAddr P 108 (pt b i) 0 w = some (pt b (i + 0), w) := pFieldAddr_eq field108n0 tyOk4 (by rw [cellsOf4]; rfl)
@[simp] theorem fi108n0 (h : 0 < a.size) : pField P 108 (.agg a) 0 w = some (gt a.toList 0, w) := pField_scal field108n0 tyOk4 isAggB4 h
@[simp] theorem fa108n1 : pFieldAddr P 108 (pt b i) 1 w = some (pt b (i + 1), w) := pFieldAddr_eq field108n1 tyOk4 (by rw [cellsOf4]; rfl)
@[simp] theorem fi108n1 (h : 1 < a.size) : pField P 108 (.agg a) 1 w = some (gt a.toList 1, w) := pField_scal field108n1 tyOk4 isAggB4 h
@[simp] theorem fa108n2 : pFieldAddr P 108 (pt b i) 2 w = some (pt b (i + 2), w) := pFieldAddr_eq field108n2 tyOk4 (by rw [cellsOf4]; rfl)
@[simp] theorem fi108n2 (h : 2 < a.size) : pField P 108 (.agg a) 2 w = some (gt a.toList 2, w) := pField_scal field108n2 tyOk4 isAggB4 h
@[simp] theorem fa108n3 : pFieldAddr P 108 (pt b i) 3 w = some (pt b (i + 3), w) := pFieldAddr_eq field108n3 tyOk4 (by rw [cellsOf4]; rfl)
@[simp] theorem fi108n3 (h : 3 < a.size) : pField P 108 (.agg a) 3 w = some (gt a.toList 3, w) := pField_scal field108n3 tyOk4 isAggB4 h
@[simp] theorem fa108n4 : pFieldAddr P 108 (pt b i) 4 w = some (pt b (i + 4), w) := pFieldAddr_eq field108n4 tyOk4 (by rw [cellsOf4]; rfl)
@[simp] theorem fi108n4 (h : 4 < a.size) : pField P 108 (.agg a) 4 w = some (gt a.toList 4, w) := pField_scal field108n4 tyOk4 isAggB4 h
@[simp] theorem al129 : pAlloc P 129 w = some (pt (sz w) 0, nw w ([(Value.string ByteArray.empty), (Value.int IntKind.i64 0), (Value.string ByteArray.empty), (Value.string ByteArray.empty), (Value.int IntKind.i64 0), (Value.string ByteArray.empty), (Value.string ByteArray.empty), (Value.int IntKind.i64 0), (Value.string ByteArray.empty), (Value.string ByteArray.empty), (Value.int IntKind.i64 0), (Value.string ByteArray.empty), (Value.string ByteArray.empty), (Value.int IntKind.i64 0), (Value.string ByteArray.empty), (Value.string ByteArray.empty), (Value.int IntKind.i64 0), (Value.string ByteArray.empty), (Value.string ByteArray.empty), (Value.int IntKind.i64 0), (Value.string ByteArray.empty), (Value.string ByteArray.empty), (Value.int IntKind.i64 0), (Value.string ByteArray.empty), (Value.string ByteArray.empty), (Value.int IntKind.i64 0), (Value.string ByteArray.empty), (Value.string ByteArray.empty), (Value.int IntKind.i64 0), (Value.string ByteArray.empty), (Value.string ByteArray.empty), (Value.int IntKind.i64 0), (Value.string ByteArray.empty), (Value.string ByteArray.empty), (Value.int IntKind.i64 0), (Value.string ByteArray.empty), (Value.string ByteArray.empty), (Value.int IntKind.i64 0), (Value.string ByteArray.empty), (Value.string ByteArray.empty), (Value.int IntKind.i64 0), (Value.string ByteArray.empty), (Value.string ByteArray.empty), (Value.int IntKind.i64 0), (Value.string ByteArray.empty), (Value.string ByteArray.empty), (Value.int IntKind.i64 0), (Value.string ByteArray.empty), (Value.string ByteArray.empty), (Value.int IntKind.i64 0), (Value.string ByteArray.empty), (Value.string ByteArray.empty), (Value.int IntKind.i64 0), (Value.string ByteArray.empty), (Value.string ByteArray.empty), (Value.int IntKind.i64 0), (Value.string ByteArray.empty), (Value.string ByteArray.empty), (Value.int IntKind.i64 0), (Value.string ByteArray.empty), (Value.string ByteArray.empty), (Value.int IntKind.i64 0), (Value.string ByteArray.empty), (Value.string ByteArray.empty), (Value.int IntKind.i64 0), (Value.string ByteArray.empty)]) 129) := by rw [pAlloc_eq hasZero129, zeroL129]
@[simp] theorem ld129 (h : i + 66 ≤ (mm w b).length) : pLoad P 129 (pt b i) w = some (.agg (((mm w b).drop i).take 66).toArray, w) := by
  have := pLoad_agg (w := w) (b := b) (i := i) tyOk129 isAggB129 (by rw [cellsOf129]; exact h); rwa [cellsOf129] at this
@[simp] theorem st129 (hs : a.size = 66) (hv : ∀ v ∈ a.toList, v.oneCell' = true) (hf : fz w b = false) (hi : i + 66 ≤ (mm w b).length) : pStore P 129 (pt b i) (.agg a) w = some (wr w b (splice (mm w b) i a.toList)) :=
  pStore_agg tyOk129 (by rw [cellsOf129, hs]) hv hf (by rw [hs]; exact hi)
@[simp] theorem ia129 (h0 : 0 ≤ j) (h1 : j < 22) : pIndexAddr P 129 (pt b o) (.int k j) w = some (pt b (o + j.toNat * 3), w) := by
  have := pIndexAddr_arr (w := w) (b := b) (o := o) (k := k) arrE129 tyOk97 h0 h1; rwa [cellsOf97] at this
@[simp] theorem slL129 (h0 : 0 ≤ x) (h1 : x ≤ (22 : Int))  : pSlice P 129 (pt b o) (some (.int k x)) none none w = some (.slice (some ⟨b, if 22 = x.toNat then o else o + x.toNat * 3, none⟩) (22 - x.toNat) (22 - x.toNat), w) := by
  have := pSlice_arr (P := P) (t := 129) (w := w) (b := b) (o := o) (lo := (some (.int k x))) (hi := none) arrE129 tyOk97 rfl rfl h0 h1 (by simp [bHi]) ; simpa [bLo, bHi] using this
@[simp] theorem slH129 {k' : IntKind} {y : Int} (h0 : 0 ≤ y) (h1 : y ≤ (22 : Int))  : pSlice P 129 (pt b o) none (some (.int k' y)) none w = some (.slice (some ⟨b, o, none⟩) (y.toNat) (22), w) := by
  have := pSlice_arr (P := P) (t := 129) (w := w) (b := b) (o := o) (lo := none) (hi := (some (.int k' y))) arrE129 tyOk97 rfl rfl (Int.le_refl 0) h0 h1 ; simpa [bLo, bHi] using this
@[simp] theorem slB129 {k' : IntKind} {y : Int} (h0 : 0 ≤ x) (h1 : x ≤ y) (h2 : y ≤ (22 : Int))  : pSlice P 129 (pt b o) (some (.int k x)) (some (.int k' y)) none w = some (.slice (some ⟨b, if 22 = x.toNat then o else o + x.toNat * 3, none⟩) (y.toNat - x.toNat) (22 - x.toNat), w) := by
  have := pSlice_arr (P := P) (t := 129) (w := w) (b := b) (o := o) (lo := (some (.int k x))) (hi := (some (.int k' y))) arrE129 tyOk97 rfl rfl h0 h1 h2 ; simpa [bLo, bHi] using this
@[simp] theorem slN129   : pSlice P 129 (pt b o) none none none w = some (.slice (some ⟨b, o, none⟩) (22) (22), w) := by
  have := pSlice_arr (P := P) (t := 129) (w := w) (b := b) (o := o) (lo := none) (hi := none) arrE129 tyOk97 rfl rfl (Int.le_refl 0) (by simp [bLo, bHi]) (by simp [bHi]) ; simpa [bLo, bHi] using this
@[simp] theorem al131 : pAlloc P 131 w = some (pt (sz w) 0, nw w ([(Value.slice none 0 0)]) 131) := by rw [pAlloc_eq hasZero131, zeroL131]
@[simp] theorem ld131 (h : i < (mm w b).length) : pLoad P 131 (pt b i) w = some (gt (mm w b) i, w) := pLoad_scal tyOk131 isAggB131 h
@[simp] theorem st131 (hv : v.oneCell' = true) (hf : fz w b = false) (hi : i < (mm w b).length) : pStore P 131 (pt b i) v w = some (wr w b ((mm w b).set i v)) := pStore_one tyOk131 cellsOf131 hv hf hi
@[simp] theorem ia131 (h0 : 0 ≤ j) (h1 : j < n) : pIndexAddr P 131 (sl b o n c) (.int k j) w = some (pt b (o + j.toNat * 1), w) := by
  have := pIndexAddr_slice (w := w) (b := b) (o := o) (c := c) (k := k) sliceE131 tyOk9 h0 h1; rwa [cellsOf9] at this
@[simp] theorem len131 {ty : TypeId} {a : Option Addr} : pBuiltin P .len #[131] ty [.slice a n c] w = some (i64 n, w) := len_slice sliceE131
@[simp] theorem slL131 (h0 : 0 ≤ x) (h1 : x ≤ (n : Int)) (hnc : n ≤ c) : pSlice P 131 (sl b o n c) (some (.int k x)) none none w = some (.slice (some ⟨b, if c = x.toNat then o else o + x.toNat * 1, none⟩) (n - x.toNat) (c - x.toNat), w) := by
  have := pSlice_slice (P := P) (t := 131) (w := w) (b := b) (o := o) (lo := (some (.int k x))) (hi := none) sliceE131 tyOk9 rfl rfl h0 h1 (by simp [bHi]; omega) hnc; simpa [bLo, bHi] using this
@[simp] theorem slH131 {k' : IntKind} {y : Int} (h0 : 0 ≤ y) (h1 : y ≤ (c : Int)) (hnc : n ≤ c) : pSlice P 131 (sl b o n c) none (some (.int k' y)) none w = some (.slice (some ⟨b, o, none⟩) (y.toNat) (c), w) := by
  have := pSlice_slice (P := P) (t := 131) (w := w) (b := b) (o := o) (lo := none) (hi := (some (.int k' y))) sliceE131 tyOk9 rfl rfl (Int.le_refl 0) h0 h1 hnc; simpa [bLo, bHi] using this
@[simp] theorem slB131 {k' : IntKind} {y : Int} (h0 : 0 ≤ x) (h1 : x ≤ y) (h2 : y ≤ (c : Int)) (hnc : n ≤ c) : pSlice P 131 (sl b o n c) (some (.int k x)) (some (.int k' y)) none w = some (.slice (some ⟨b, if c = x.toNat then o else o + x.toNat * 1, none⟩) (y.toNat - x.toNat) (c - x.toNat), w) := by
  have := pSlice_slice (P := P) (t := 131) (w := w) (b := b) (o := o) (lo := (some (.int k x))) (hi := (some (.int k' y))) sliceE131 tyOk9 rfl rfl h0 h1 h2 hnc; simpa [bLo, bHi] using this
@[simp] theorem slN131  (hnc : n ≤ c) : pSlice P 131 (sl b o n c) none none none w = some (.slice (some ⟨b, o, none⟩) (n) (c), w) := by
  have := pSlice_slice (P := P) (t := 131) (w := w) (b := b) (o := o) (lo := none) (hi := none) sliceE131 tyOk9 rfl rfl (Int.le_refl 0) (by simp [bLo, bHi]) (by simp [bHi]; omega) hnc; simpa [bLo, bHi] using this
@[simp] theorem bsl131 {ps : List (Nat × Value)} (hbig : n * 1 ≤ 2 ^ 24) (hp : ∀ p ∈ ps, p.2.cells.size = 1 ∧ p.1 < n) : pBuildSlice P 131 n ps w = some (sl (sz w) 0 n n,
    nw w (ps.foldl (fun l p => splice l (p.1 * 1) p.2.cells.toList) (List.replicate n ([(Value.string ByteArray.empty)])).flatten) 9) := by
  have := pBuildSlice_eq (w := w) sliceE131 hasZero9 tyOk9 cellsOf9 (by rw [zeroL9]; rfl) hbig hp; rwa [zeroL9] at this
end
end Go.Proofs.YtieejbkbdfccdaaDoor
