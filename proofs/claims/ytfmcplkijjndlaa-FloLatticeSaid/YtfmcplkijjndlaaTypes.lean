/- Facts on the program's types, printed by types.py. -/
import Derived.Test.YtfmcplkijjndlaaPrims2
import Derived.Test.YtfmcplkijjndlaaBase
set_option linter.unusedVariables false
namespace Go.Proofs.Ytfmcplkijjndlaa
open Go

section
variable {w : World} {b i o n c : Nat} {k : IntKind} {x j : Int} {v : Value} {a : Array Value} {lo hi : Option Value}

@[simp] theorem tyOk2 : tyOk P 2 = true := by kernel_rfl
@[simp] theorem isAggB2 : isAggB P 2 = false := by kernel_rfl
@[simp] theorem cellsOf2 : P.cellsOf 2 = 1 := by kernel_rfl
@[simp] theorem bytesOf2 : P.bytesOf 2 = 8 := by kernel_rfl
@[simp] theorem hasZero2 : hasZero P 2 = true := by kernel_rfl
@[simp] theorem zeroL2 : zeroL P 2 = [(Value.int IntKind.i64 0)] := by kernel_rfl
@[simp] theorem intK2 : intK P 2 = some IntKind.i64 := by kernel_rfl
@[simp] theorem und2 : P.underlying 2 = some (.int .i64) := by kernel_rfl
@[simp] theorem tyOk3 : tyOk P 3 = true := by kernel_rfl
@[simp] theorem isAggB3 : isAggB P 3 = false := by kernel_rfl
@[simp] theorem cellsOf3 : P.cellsOf 3 = 1 := by kernel_rfl
@[simp] theorem bytesOf3 : P.bytesOf 3 = 8 := by kernel_rfl
@[simp] theorem hasZero3 : hasZero P 3 = true := by kernel_rfl
@[simp] theorem zeroL3 : zeroL P 3 = [(Value.int IntKind.i64 0)] := by kernel_rfl
@[simp] theorem intK3 : intK P 3 = some IntKind.i64 := by kernel_rfl
@[simp] theorem und3 : P.underlying 3 = some (.int .i64) := by kernel_rfl
@[simp] theorem tyOk4 : tyOk P 4 = true := by kernel_rfl
@[simp] theorem isAggB4 : isAggB P 4 = false := by kernel_rfl
@[simp] theorem cellsOf4 : P.cellsOf 4 = 1 := by kernel_rfl
@[simp] theorem bytesOf4 : P.bytesOf 4 = 1 := by kernel_rfl
@[simp] theorem hasZero4 : hasZero P 4 = true := by kernel_rfl
@[simp] theorem zeroL4 : zeroL P 4 = [(Value.bool false)] := by kernel_rfl
@[simp] theorem und4 : P.underlying 4 = some .bool := by kernel_rfl
@[simp] theorem tyOk5 : tyOk P 5 = true := by kernel_rfl
@[simp] theorem isAggB5 : isAggB P 5 = false := by kernel_rfl
@[simp] theorem cellsOf5 : P.cellsOf 5 = 1 := by kernel_rfl
@[simp] theorem bytesOf5 : P.bytesOf 5 = 1 := by kernel_rfl
@[simp] theorem hasZero5 : hasZero P 5 = true := by kernel_rfl
@[simp] theorem zeroL5 : zeroL P 5 = [(Value.int IntKind.u8 0)] := by kernel_rfl
@[simp] theorem intK5 : intK P 5 = some IntKind.u8 := by kernel_rfl
@[simp] theorem und5 : P.underlying 5 = some (.int .u8) := by kernel_rfl
@[simp] theorem tyOk9 : tyOk P 9 = true := by kernel_rfl
@[simp] theorem isAggB9 : isAggB P 9 = false := by kernel_rfl
@[simp] theorem cellsOf9 : P.cellsOf 9 = 1 := by kernel_rfl
@[simp] theorem bytesOf9 : P.bytesOf 9 = 16 := by kernel_rfl
@[simp] theorem hasZero9 : hasZero P 9 = true := by kernel_rfl
@[simp] theorem zeroL9 : zeroL P 9 = [(Value.string ByteArray.empty)] := by kernel_rfl
@[simp] theorem und9 : P.underlying 9 = some .string := by kernel_rfl
@[simp] theorem tyOk22 : tyOk P 22 = true := by kernel_rfl
@[simp] theorem isAggB22 : isAggB P 22 = false := by kernel_rfl
@[simp] theorem cellsOf22 : P.cellsOf 22 = 1 := by kernel_rfl
@[simp] theorem bytesOf22 : P.bytesOf 22 = 8 := by kernel_rfl
@[simp] theorem hasZero22 : hasZero P 22 = true := by kernel_rfl
@[simp] theorem zeroL22 : zeroL P 22 = [(Value.float FloatKind.f64 0)] := by kernel_rfl
@[simp] theorem tyOk25 : tyOk P 25 = true := by kernel_rfl
@[simp] theorem isAggB25 : isAggB P 25 = false := by kernel_rfl
@[simp] theorem cellsOf25 : P.cellsOf 25 = 1 := by kernel_rfl
@[simp] theorem bytesOf25 : P.bytesOf 25 = 8 := by kernel_rfl
@[simp] theorem hasZero25 : hasZero P 25 = true := by kernel_rfl
@[simp] theorem zeroL25 : zeroL P 25 = [(Value.int IntKind.u64 0)] := by kernel_rfl
@[simp] theorem intK25 : intK P 25 = some IntKind.u64 := by kernel_rfl
@[simp] theorem und25 : P.underlying 25 = some (.int .u64) := by kernel_rfl
theorem al2 : pAlloc P 2 w = some (pt (sz w) 0, nw w ([(Value.int IntKind.i64 0)]) 2) := by rw [pAlloc_eq hasZero2, zeroL2]
theorem ld2 (h : i < (mm w b).length) : pLoad P 2 (pt b i) w = some (gt (mm w b) i, w) := pLoad_scal tyOk2 isAggB2 h
theorem st2 (hv : v.oneCell' = true) (hf : fz w b = false) (hi : i < (mm w b).length) : pStore P 2 (pt b i) v w = some (wr w b ((mm w b).set i v)) := pStore_one tyOk2 cellsOf2 hv hf hi
theorem cv2 {s : TypeId} (hs : tyOk P s = true) : pConv P s 2 (.int k x) w = some (.int .i64 (IntKind.wrap .i64 x), w) := pConv_int hs intK2
theorem al3 : pAlloc P 3 w = some (pt (sz w) 0, nw w ([(Value.int IntKind.i64 0)]) 3) := by rw [pAlloc_eq hasZero3, zeroL3]
theorem ld3 (h : i < (mm w b).length) : pLoad P 3 (pt b i) w = some (gt (mm w b) i, w) := pLoad_scal tyOk3 isAggB3 h
theorem st3 (hv : v.oneCell' = true) (hf : fz w b = false) (hi : i < (mm w b).length) : pStore P 3 (pt b i) v w = some (wr w b ((mm w b).set i v)) := pStore_one tyOk3 cellsOf3 hv hf hi
theorem cv3 {s : TypeId} (hs : tyOk P s = true) : pConv P s 3 (.int k x) w = some (.int .i64 (IntKind.wrap .i64 x), w) := pConv_int hs intK3
theorem al4 : pAlloc P 4 w = some (pt (sz w) 0, nw w ([(Value.bool false)]) 4) := by rw [pAlloc_eq hasZero4, zeroL4]
theorem ld4 (h : i < (mm w b).length) : pLoad P 4 (pt b i) w = some (gt (mm w b) i, w) := pLoad_scal tyOk4 isAggB4 h
theorem st4 (hv : v.oneCell' = true) (hf : fz w b = false) (hi : i < (mm w b).length) : pStore P 4 (pt b i) v w = some (wr w b ((mm w b).set i v)) := pStore_one tyOk4 cellsOf4 hv hf hi
theorem al5 : pAlloc P 5 w = some (pt (sz w) 0, nw w ([(Value.int IntKind.u8 0)]) 5) := by rw [pAlloc_eq hasZero5, zeroL5]
theorem ld5 (h : i < (mm w b).length) : pLoad P 5 (pt b i) w = some (gt (mm w b) i, w) := pLoad_scal tyOk5 isAggB5 h
theorem st5 (hv : v.oneCell' = true) (hf : fz w b = false) (hi : i < (mm w b).length) : pStore P 5 (pt b i) v w = some (wr w b ((mm w b).set i v)) := pStore_one tyOk5 cellsOf5 hv hf hi
theorem cv5 {s : TypeId} (hs : tyOk P s = true) : pConv P s 5 (.int k x) w = some (.int .u8 (IntKind.wrap .u8 x), w) := pConv_int hs intK5
theorem al9 : pAlloc P 9 w = some (pt (sz w) 0, nw w ([(Value.string ByteArray.empty)]) 9) := by rw [pAlloc_eq hasZero9, zeroL9]
theorem ld9 (h : i < (mm w b).length) : pLoad P 9 (pt b i) w = some (gt (mm w b) i, w) := pLoad_scal tyOk9 isAggB9 h
theorem st9 (hv : v.oneCell' = true) (hf : fz w b = false) (hi : i < (mm w b).length) : pStore P 9 (pt b i) v w = some (wr w b ((mm w b).set i v)) := pStore_one tyOk9 cellsOf9 hv hf hi
theorem al22 : pAlloc P 22 w = some (pt (sz w) 0, nw w ([(Value.float FloatKind.f64 0)]) 22) := by rw [pAlloc_eq hasZero22, zeroL22]
theorem ld22 (h : i < (mm w b).length) : pLoad P 22 (pt b i) w = some (gt (mm w b) i, w) := pLoad_scal tyOk22 isAggB22 h
theorem st22 (hv : v.oneCell' = true) (hf : fz w b = false) (hi : i < (mm w b).length) : pStore P 22 (pt b i) v w = some (wr w b ((mm w b).set i v)) := pStore_one tyOk22 cellsOf22 hv hf hi
theorem al25 : pAlloc P 25 w = some (pt (sz w) 0, nw w ([(Value.int IntKind.u64 0)]) 25) := by rw [pAlloc_eq hasZero25, zeroL25]
theorem ld25 (h : i < (mm w b).length) : pLoad P 25 (pt b i) w = some (gt (mm w b) i, w) := pLoad_scal tyOk25 isAggB25 h
theorem st25 (hv : v.oneCell' = true) (hf : fz w b = false) (hi : i < (mm w b).length) : pStore P 25 (pt b i) v w = some (wr w b ((mm w b).set i v)) := pStore_one tyOk25 cellsOf25 hv hf hi
theorem cv25 {s : TypeId} (hs : tyOk P s = true) : pConv P s 25 (.int k x) w = some (.int .u64 (IntKind.wrap .u64 x), w) := pConv_int hs intK25
end
end Go.Proofs.Ytfmcplkijjndlaa
