/- Facts on the program's types, printed by types.py. -/
import Derived.Test.YticncfkpfpkfoaaPrims3
import Derived.Test.YticncfkpfpkfoaaBase
set_option linter.unusedVariables false
namespace Go.Proofs.Yticncfkpfpkfoaa
open Go

section
variable {w : World} {b i o n c : Nat} {k : IntKind} {x j : Int} {v : Value} {a : Array Value} {lo hi : Option Value}

@[simp] theorem tyOk2 : tyOk P 2 = true := by kernel_rfl
@[simp] theorem isAggB2 : isAggB P 2 = false := by kernel_rfl
@[simp] theorem cellsOf2 : P.cellsOf 2 = 1 := by kernel_rfl
@[simp] theorem bytesOf2 : P.bytesOf 2 = 8 := by kernel_rfl
@[simp] theorem hasZero2 : hasZero P 2 = true := by kernel_rfl
@[simp] theorem zeroL2 : zeroL P 2 = [(Value.int IntKind.i64 0)] := by kernel_rfl
@[simp] theorem intK2 : intK P 2 = some IntKind.i64 := by kernel_rfl
@[simp] theorem und2 : P.underlying 2 = some (.int .i64) := by kernel_rfl
@[simp] theorem tyOk3 : tyOk P 3 = true := by kernel_rfl
@[simp] theorem isAggB3 : isAggB P 3 = false := by kernel_rfl
@[simp] theorem cellsOf3 : P.cellsOf 3 = 1 := by kernel_rfl
@[simp] theorem bytesOf3 : P.bytesOf 3 = 8 := by kernel_rfl
@[simp] theorem hasZero3 : hasZero P 3 = true := by kernel_rfl
@[simp] theorem zeroL3 : zeroL P 3 = [(Value.int IntKind.i64 0)] := by kernel_rfl
@[simp] theorem intK3 : intK P 3 = some IntKind.i64 := by kernel_rfl
@[simp] theorem und3 : P.underlying 3 = some (.int .i64) := by kernel_rfl
@[simp] theorem tyOk4 : tyOk P 4 = true := by kernel_rfl
@[simp] theorem isAggB4 : isAggB P 4 = false := by kernel_rfl
@[simp] theorem cellsOf4 : P.cellsOf 4 = 1 := by kernel_rfl
@[simp] theorem bytesOf4 : P.bytesOf 4 = 1 := by kernel_rfl
@[simp] theorem hasZero4 : hasZero P 4 = true := by kernel_rfl
@[simp] theorem zeroL4 : zeroL P 4 = [(Value.bool false)] := by kernel_rfl
@[simp] theorem und4 : P.underlying 4 = some .bool := by kernel_rfl
@[simp] theorem tyOk5 : tyOk P 5 = true := by kernel_rfl
@[simp] theorem isAggB5 : isAggB P 5 = false := by kernel_rfl
@[simp] theorem cellsOf5 : P.cellsOf 5 = 1 := by kernel_rfl
@[simp] theorem bytesOf5 : P.bytesOf 5 = 1 := by kernel_rfl
@[simp] theorem hasZero5 : hasZero P 5 = true := by kernel_rfl
@[simp] theorem zeroL5 : zeroL P 5 = [(Value.int IntKind.u8 0)] := by kernel_rfl
@[simp] theorem intK5 : intK P 5 = some IntKind.u8 := by kernel_rfl
@[simp] theorem und5 : P.underlying 5 = some (.int .u8) := by kernel_rfl
@[simp] theorem tyOk9 : tyOk P 9 = true := by kernel_rfl
@[simp] theorem isAggB9 : isAggB P 9 = false := by kernel_rfl
@[simp] theorem cellsOf9 : P.cellsOf 9 = 1 := by kernel_rfl
@[simp] theorem bytesOf9 : P.bytesOf 9 = 16 := by kernel_rfl
@[simp] theorem hasZero9 : hasZero P 9 = true := by kernel_rfl
@[simp] theorem zeroL9 : zeroL P 9 = [(Value.string ByteArray.empty)] := by kernel_rfl
@[simp] theorem und9 : P.underlying 9 = some .string := by kernel_rfl
@[simp] theorem tyOk22 : tyOk P 22 = true := by kernel_rfl
@[simp] theorem isAggB22 : isAggB P 22 = false := by kernel_rfl
@[simp] theorem cellsOf22 : P.cellsOf 22 = 1 := by kernel_rfl
@[simp] theorem bytesOf22 : P.bytesOf 22 = 24 := by kernel_rfl
@[simp] theorem hasZero22 : hasZero P 22 = true := by kernel_rfl
@[simp] theorem zeroL22 : zeroL P 22 = [(Value.slice none 0 0)] := by kernel_rfl
@[simp] theorem sliceE22 : sliceE P 22 = some 5 := by kernel_rfl
@[simp] theorem tyOk25 : tyOk P 25 = true := by kernel_rfl
@[simp] theorem isAggB25 : isAggB P 25 = true := by kernel_rfl
@[simp] theorem cellsOf25 : P.cellsOf 25 = 64 := by kernel_rfl
@[simp] theorem bytesOf25 : P.bytesOf 25 = 64 := by kernel_rfl
@[simp] theorem hasZero25 : hasZero P 25 = true := by kernel_rfl
@[simp] theorem zeroL25 : zeroL P 25 = bs (zb 64) := by kernel_rfl
@[simp] theorem arrE25 : arrE P 25 = some (64, 5) := by kernel_rfl
@[simp] theorem und25 : P.underlying 25 = some (.array 64 5) := by kernel_rfl
@[simp] theorem eqg25 : P.eqGuardType P.depth 25 = false := by kernel_rfl
@[simp] theorem tyOk26 : tyOk P 26 = true := by kernel_rfl
@[simp] theorem isAggB26 : isAggB P 26 = false := by kernel_rfl
@[simp] theorem cellsOf26 : P.cellsOf 26 = 1 := by kernel_rfl
@[simp] theorem bytesOf26 : P.bytesOf 26 = 8 := by kernel_rfl
@[simp] theorem hasZero26 : hasZero P 26 = true := by kernel_rfl
@[simp] theorem zeroL26 : zeroL P 26 = [(Value.int IntKind.i64 0)] := by kernel_rfl
@[simp] theorem intK26 : intK P 26 = some IntKind.i64 := by kernel_rfl
@[simp] theorem und26 : P.underlying 26 = some (.int .i64) := by kernel_rfl
@[simp] theorem tyOk34 : tyOk P 34 = true := by kernel_rfl
@[simp] theorem isAggB34 : isAggB P 34 = false := by kernel_rfl
@[simp] theorem cellsOf34 : P.cellsOf 34 = 1 := by kernel_rfl
@[simp] theorem bytesOf34 : P.bytesOf 34 = 8 := by kernel_rfl
@[simp] theorem hasZero34 : hasZero P 34 = true := by kernel_rfl
@[simp] theorem zeroL34 : zeroL P 34 = [(Value.pointer none)] := by kernel_rfl
@[simp] theorem und34 : P.underlying 34 = some (.pointer 108) := by kernel_rfl
@[simp] theorem tyOk42 : tyOk P 42 = true := by kernel_rfl
@[simp] theorem isAggB42 : isAggB P 42 = false := by kernel_rfl
@[simp] theorem cellsOf42 : P.cellsOf 42 = 1 := by kernel_rfl
@[simp] theorem bytesOf42 : P.bytesOf 42 = 24 := by kernel_rfl
@[simp] theorem hasZero42 : hasZero P 42 = true := by kernel_rfl
@[simp] theorem zeroL42 : zeroL P 42 = [(Value.slice none 0 0)] := by kernel_rfl
@[simp] theorem sliceE42 : sliceE P 42 = some 46 := by kernel_rfl
@[simp] theorem tyOk43 : tyOk P 43 = true := by kernel_rfl
@[simp] theorem isAggB43 : isAggB P 43 = false := by kernel_rfl
@[simp] theorem cellsOf43 : P.cellsOf 43 = 1 := by kernel_rfl
@[simp] theorem bytesOf43 : P.bytesOf 43 = 24 := by kernel_rfl
@[simp] theorem hasZero43 : hasZero P 43 = true := by kernel_rfl
@[simp] theorem zeroL43 : zeroL P 43 = [(Value.slice none 0 0)] := by kernel_rfl
@[simp] theorem sliceE43 : sliceE P 43 = some 3 := by kernel_rfl
@[simp] theorem tyOk46 : tyOk P 46 = true := by kernel_rfl
@[simp] theorem isAggB46 : isAggB P 46 = true := by kernel_rfl
@[simp] theorem cellsOf46 : P.cellsOf 46 = 4 := by kernel_rfl
@[simp] theorem bytesOf46 : P.bytesOf 46 = 48 := by kernel_rfl
@[simp] theorem hasZero46 : hasZero P 46 = true := by kernel_rfl
@[simp] theorem zeroL46 : zeroL P 46 = [(Value.int IntKind.i64 0), (Value.int IntKind.i64 0), (Value.int IntKind.u8 0), (Value.slice none 0 0)] := by kernel_rfl
@[simp] theorem eqg46 : P.eqGuardType P.depth 46 = false := by kernel_rfl
@[simp] theorem field46n0 : fieldB P 46 0 = some (0, 3) := by kernel_rfl
@[simp] theorem field46n1 : fieldB P 46 1 = some (1, 3) := by kernel_rfl
@[simp] theorem field46n2 : fieldB P 46 2 = some (2, 5) := by kernel_rfl
@[simp] theorem field46n3 : fieldB P 46 3 = some (3, 43) := by kernel_rfl
@[simp] theorem tyOk48 : tyOk P 48 = true := by kernel_rfl
@[simp] theorem isAggB48 : isAggB P 48 = true := by kernel_rfl
@[simp] theorem cellsOf48 : P.cellsOf 48 = 512 := by kernel_rfl
@[simp] theorem bytesOf48 : P.bytesOf 48 = 512 := by kernel_rfl
@[simp] theorem hasZero48 : hasZero P 48 = true := by kernel_rfl
@[simp] theorem zeroL48 : zeroL P 48 = bs (zb 512) := by kernel_rfl
@[simp] theorem arrE48 : arrE P 48 = some (8, 25) := by kernel_rfl
@[simp] theorem und48 : P.underlying 48 = some (.array 8 25) := by kernel_rfl
@[simp] theorem eqg48 : P.eqGuardType P.depth 48 = false := by kernel_rfl
@[simp] theorem tyOk49 : tyOk P 49 = true := by kernel_rfl
@[simp] theorem isAggB49 : isAggB P 49 = true := by kernel_rfl
@[simp] theorem cellsOf49 : P.cellsOf 49 = 8 := by kernel_rfl
@[simp] theorem bytesOf49 : P.bytesOf 49 = 8 := by kernel_rfl
@[simp] theorem hasZero49 : hasZero P 49 = true := by kernel_rfl
@[simp] theorem zeroL49 : zeroL P 49 = [(Value.bool false), (Value.bool false), (Value.bool false), (Value.bool false), (Value.bool false), (Value.bool false), (Value.bool false), (Value.bool false)] := by kernel_rfl
@[simp] theorem arrE49 : arrE P 49 = some (8, 4) := by kernel_rfl
@[simp] theorem und49 : P.underlying 49 = some (.array 8 4) := by kernel_rfl
@[simp] theorem eqg49 : P.eqGuardType P.depth 49 = false := by kernel_rfl
@[simp] theorem tyOk52 : tyOk P 52 = true := by kernel_rfl
@[simp] theorem isAggB52 : isAggB P 52 = false := by kernel_rfl
@[simp] theorem cellsOf52 : P.cellsOf 52 = 1 := by kernel_rfl
@[simp] theorem bytesOf52 : P.bytesOf 52 = 8 := by kernel_rfl
@[simp] theorem hasZero52 : hasZero P 52 = true := by kernel_rfl
@[simp] theorem zeroL52 : zeroL P 52 = [(Value.pointer none)] := by kernel_rfl
@[simp] theorem und52 : P.underlying 52 = some (.pointer 113) := by kernel_rfl
@[simp] theorem tyOk65 : tyOk P 65 = true := by kernel_rfl
@[simp] theorem isAggB65 : isAggB P 65 = true := by kernel_rfl
@[simp] theorem cellsOf65 : P.cellsOf 65 = 2 := by kernel_rfl
@[simp] theorem bytesOf65 : P.bytesOf 65 = 16 := by kernel_rfl
@[simp] theorem hasZero65 : hasZero P 65 = true := by kernel_rfl
@[simp] theorem zeroL65 : zeroL P 65 = [(Value.int IntKind.i64 0), (Value.int IntKind.i64 0)] := by kernel_rfl
@[simp] theorem eqg65 : P.eqGuardType P.depth 65 = false := by kernel_rfl
@[simp] theorem field65n0 : fieldB P 65 0 = some (0, 3) := by kernel_rfl
@[simp] theorem field65n1 : fieldB P 65 1 = some (1, 3) := by kernel_rfl
@[simp] theorem tyOk66 : tyOk P 66 = true := by kernel_rfl
@[simp] theorem isAggB66 : isAggB P 66 = false := by kernel_rfl
@[simp] theorem cellsOf66 : P.cellsOf 66 = 1 := by kernel_rfl
@[simp] theorem bytesOf66 : P.bytesOf 66 = 8 := by kernel_rfl
@[simp] theorem hasZero66 : hasZero P 66 = true := by kernel_rfl
@[simp] theorem zeroL66 : zeroL P 66 = [(Value.pointer none)] := by kernel_rfl
@[simp] theorem und66 : P.underlying 66 = some (.pointer 119) := by kernel_rfl
@[simp] theorem tyOk67 : tyOk P 67 = true := by kernel_rfl
@[simp] theorem isAggB67 : isAggB P 67 = false := by kernel_rfl
@[simp] theorem cellsOf67 : P.cellsOf 67 = 1 := by kernel_rfl
@[simp] theorem bytesOf67 : P.bytesOf 67 = 24 := by kernel_rfl
@[simp] theorem hasZero67 : hasZero P 67 = true := by kernel_rfl
@[simp] theorem zeroL67 : zeroL P 67 = [(Value.slice none 0 0)] := by kernel_rfl
@[simp] theorem sliceE67 : sliceE P 67 = some 22 := by kernel_rfl
@[simp] theorem tyOk76 : tyOk P 76 = true := by kernel_rfl
@[simp] theorem isAggB76 : isAggB P 76 = false := by kernel_rfl
@[simp] theorem cellsOf76 : P.cellsOf 76 = 1 := by kernel_rfl
@[simp] theorem bytesOf76 : P.bytesOf 76 = 24 := by kernel_rfl
@[simp] theorem hasZero76 : hasZero P 76 = true := by kernel_rfl
@[simp] theorem zeroL76 : zeroL P 76 = [(Value.slice none 0 0)] := by kernel_rfl
@[simp] theorem sliceE76 : sliceE P 76 = some 25 := by kernel_rfl
@[simp] theorem tyOk85 : tyOk P 85 = true := by kernel_rfl
@[simp] theorem isAggB85 : isAggB P 85 = false := by kernel_rfl
@[simp] theorem cellsOf85 : P.cellsOf 85 = 1 := by kernel_rfl
@[simp] theorem bytesOf85 : P.bytesOf 85 = 24 := by kernel_rfl
@[simp] theorem hasZero85 : hasZero P 85 = true := by kernel_rfl
@[simp] theorem zeroL85 : zeroL P 85 = [(Value.slice none 0 0)] := by kernel_rfl
@[simp] theorem sliceE85 : sliceE P 85 = some 87 := by kernel_rfl
@[simp] theorem tyOk87 : tyOk P 87 = true := by kernel_rfl
@[simp] theorem isAggB87 : isAggB P 87 = true := by kernel_rfl
@[simp] theorem cellsOf87 : P.cellsOf 87 = 6 := by kernel_rfl
@[simp] theorem bytesOf87 : P.bytesOf 87 = 48 := by kernel_rfl
@[simp] theorem hasZero87 : hasZero P 87 = true := by kernel_rfl
@[simp] theorem zeroL87 : zeroL P 87 = [(Value.int IntKind.i64 0), (Value.int IntKind.i64 0), (Value.int IntKind.i64 0), (Value.int IntKind.i64 0), (Value.int IntKind.i64 0), (Value.int IntKind.i64 0)] := by kernel_rfl
@[simp] theorem eqg87 : P.eqGuardType P.depth 87 = false := by kernel_rfl
@[simp] theorem field87n0 : fieldB P 87 0 = some (0, 3) := by kernel_rfl
@[simp] theorem field87n1 : fieldB P 87 1 = some (1, 3) := by kernel_rfl
@[simp] theorem field87n2 : fieldB P 87 2 = some (2, 3) := by kernel_rfl
@[simp] theorem field87n3 : fieldB P 87 3 = some (3, 3) := by kernel_rfl
@[simp] theorem field87n4 : fieldB P 87 4 = some (4, 3) := by kernel_rfl
@[simp] theorem field87n5 : fieldB P 87 5 = some (5, 3) := by kernel_rfl
@[simp] theorem tyOk92 : tyOk P 92 = true := by kernel_rfl
@[simp] theorem isAggB92 : isAggB P 92 = true := by kernel_rfl
@[simp] theorem cellsOf92 : P.cellsOf 92 = 6 := by kernel_rfl
@[simp] theorem bytesOf92 : P.bytesOf 92 = 48 := by kernel_rfl
@[simp] theorem hasZero92 : hasZero P 92 = true := by kernel_rfl
@[simp] theorem zeroL92 : zeroL P 92 = [(Value.int IntKind.i64 0), (Value.int IntKind.i64 0), (Value.int IntKind.i64 0), (Value.int IntKind.i64 0), (Value.int IntKind.i64 0), (Value.int IntKind.i64 0)] := by kernel_rfl
@[simp] theorem arrE92 : arrE P 92 = some (6, 3) := by kernel_rfl
@[simp] theorem und92 : P.underlying 92 = some (.array 6 3) := by kernel_rfl
@[simp] theorem eqg92 : P.eqGuardType P.depth 92 = false := by kernel_rfl
@[simp] theorem tyOk93 : tyOk P 93 = true := by kernel_rfl
@[simp] theorem isAggB93 : isAggB P 93 = true := by kernel_rfl
@[simp] theorem cellsOf93 : P.cellsOf 93 = 6 := by kernel_rfl
@[simp] theorem bytesOf93 : P.bytesOf 93 = 48 := by kernel_rfl
@[simp] theorem hasZero93 : hasZero P 93 = true := by kernel_rfl
@[simp] theorem zeroL93 : zeroL P 93 = [(Value.int IntKind.i64 0), (Value.int IntKind.i64 0), (Value.int IntKind.i64 0), (Value.int IntKind.i64 0), (Value.int IntKind.i64 0), (Value.int IntKind.i64 0)] := by kernel_rfl
@[simp] theorem arrE93 : arrE P 93 = some (6, 3) := by kernel_rfl
@[simp] theorem und93 : P.underlying 93 = some (.array 6 3) := by kernel_rfl
@[simp] theorem eqg93 : P.eqGuardType P.depth 93 = false := by kernel_rfl
@[simp] theorem tyOk98 : tyOk P 98 = true := by kernel_rfl
@[simp] theorem isAggB98 : isAggB P 98 = true := by kernel_rfl
@[simp] theorem cellsOf98 : P.cellsOf 98 = 128 := by kernel_rfl
@[simp] theorem bytesOf98 : P.bytesOf 98 = 128 := by kernel_rfl
@[simp] theorem hasZero98 : hasZero P 98 = true := by kernel_rfl
@[simp] theorem zeroL98 : zeroL P 98 = bs (zb 128) := by kernel_rfl
@[simp] theorem arrE98 : arrE P 98 = some (2, 25) := by kernel_rfl
@[simp] theorem und98 : P.underlying 98 = some (.array 2 25) := by kernel_rfl
@[simp] theorem eqg98 : P.eqGuardType P.depth 98 = false := by kernel_rfl
@[simp] theorem tyOk104 : tyOk P 104 = true := by kernel_rfl
@[simp] theorem isAggB104 : isAggB P 104 = true := by kernel_rfl
@[simp] theorem cellsOf104 : P.cellsOf 104 = 12 := by kernel_rfl
@[simp] theorem bytesOf104 : P.bytesOf 104 = 96 := by kernel_rfl
@[simp] theorem hasZero104 : hasZero P 104 = true := by kernel_rfl
@[simp] theorem zeroL104 : zeroL P 104 = [(Value.int IntKind.i64 0), (Value.int IntKind.i64 0), (Value.int IntKind.i64 0), (Value.int IntKind.i64 0), (Value.int IntKind.i64 0), (Value.int IntKind.i64 0), (Value.int IntKind.i64 0), (Value.int IntKind.i64 0), (Value.int IntKind.i64 0), (Value.int IntKind.i64 0), (Value.int IntKind.i64 0), (Value.int IntKind.i64 0)] := by kernel_rfl
@[simp] theorem arrE104 : arrE P 104 = some (2, 87) := by kernel_rfl
@[simp] theorem und104 : P.underlying 104 = some (.array 2 87) := by kernel_rfl
@[simp] theorem eqg104 : P.eqGuardType P.depth 104 = false := by kernel_rfl
@[simp] theorem tyOk106 : tyOk P 106 = true := by kernel_rfl
@[simp] theorem isAggB106 : isAggB P 106 = false := by kernel_rfl
@[simp] theorem cellsOf106 : P.cellsOf 106 = 1 := by kernel_rfl
@[simp] theorem bytesOf106 : P.bytesOf 106 = 24 := by kernel_rfl
@[simp] theorem hasZero106 : hasZero P 106 = true := by kernel_rfl
@[simp] theorem zeroL106 : zeroL P 106 = [(Value.slice none 0 0)] := by kernel_rfl
@[simp] theorem sliceE106 : sliceE P 106 = some 111 := by kernel_rfl
@[simp] theorem tyOk108 : tyOk P 108 = true := by kernel_rfl
@[simp] theorem isAggB108 : isAggB P 108 = true := by kernel_rfl
@[simp] theorem cellsOf108 : P.cellsOf 108 = 5 := by kernel_rfl
@[simp] theorem bytesOf108 : P.bytesOf 108 = 72 := by kernel_rfl
@[simp] theorem hasZero108 : hasZero P 108 = true := by kernel_rfl
@[simp] theorem zeroL108 : zeroL P 108 = [(Value.slice none 0 0), (Value.slice none 0 0), (Value.int IntKind.i64 0), (Value.bool false), (Value.int IntKind.i64 0)] := by kernel_rfl
@[simp] theorem eqg108 : P.eqGuardType P.depth 108 = false := by kernel_rfl
@[simp] theorem field108n0 : fieldB P 108 0 = some (0, 76) := by kernel_rfl
@[simp] theorem field108n1 : fieldB P 108 1 = some (1, 106) := by kernel_rfl
@[simp] theorem field108n2 : fieldB P 108 2 = some (2, 3) := by kernel_rfl
@[simp] theorem field108n3 : fieldB P 108 3 = some (3, 4) := by kernel_rfl
@[simp] theorem field108n4 : fieldB P 108 4 = some (4, 3) := by kernel_rfl
@[simp] theorem tyOk111 : tyOk P 111 = true := by kernel_rfl
@[simp] theorem isAggB111 : isAggB P 111 = true := by kernel_rfl
@[simp] theorem cellsOf111 : P.cellsOf 111 = 65 := by kernel_rfl
@[simp] theorem bytesOf111 : P.bytesOf 111 = 72 := by kernel_rfl
@[simp] theorem hasZero111 : hasZero P 111 = true := by kernel_rfl
@[simp] theorem zeroL111 : zeroL P 111 = (Value.int IntKind.i64 0) :: bs (zb 64) := by kernel_rfl
@[simp] theorem eqg111 : P.eqGuardType P.depth 111 = false := by kernel_rfl
@[simp] theorem field111n0 : fieldB P 111 0 = some (0, 3) := by kernel_rfl
@[simp] theorem field111n1 : fieldB P 111 1 = some (1, 25) := by kernel_rfl
@[simp] theorem tyOk113 : tyOk P 113 = true := by kernel_rfl
@[simp] theorem isAggB113 : isAggB P 113 = true := by kernel_rfl
@[simp] theorem cellsOf113 : P.cellsOf 113 = 7 := by kernel_rfl
@[simp] theorem bytesOf113 : P.bytesOf 113 = 120 := by kernel_rfl
@[simp] theorem hasZero113 : hasZero P 113 = true := by kernel_rfl
@[simp] theorem zeroL113 : zeroL P 113 = [(Value.slice none 0 0), (Value.slice none 0 0), (Value.slice none 0 0), (Value.slice none 0 0), (Value.int IntKind.i64 0), (Value.bool false), (Value.int IntKind.i64 0)] := by kernel_rfl
@[simp] theorem eqg113 : P.eqGuardType P.depth 113 = false := by kernel_rfl
@[simp] theorem field113n0 : fieldB P 113 0 = some (0, 76) := by kernel_rfl
@[simp] theorem field113n1 : fieldB P 113 1 = some (1, 76) := by kernel_rfl
@[simp] theorem field113n2 : fieldB P 113 2 = some (2, 43) := by kernel_rfl
@[simp] theorem field113n3 : fieldB P 113 3 = some (3, 76) := by kernel_rfl
@[simp] theorem field113n4 : fieldB P 113 4 = some (4, 3) := by kernel_rfl
@[simp] theorem field113n5 : fieldB P 113 5 = some (5, 4) := by kernel_rfl
@[simp] theorem field113n6 : fieldB P 113 6 = some (6, 3) := by kernel_rfl
@[simp] theorem tyOk119 : tyOk P 119 = true := by kernel_rfl
@[simp] theorem isAggB119 : isAggB P 119 = true := by kernel_rfl
@[simp] theorem cellsOf119 : P.cellsOf 119 = 4 := by kernel_rfl
@[simp] theorem bytesOf119 : P.bytesOf 119 = 32 := by kernel_rfl
@[simp] theorem hasZero119 : hasZero P 119 = true := by kernel_rfl
@[simp] theorem zeroL119 : zeroL P 119 = [(Value.pointer none), (Value.int IntKind.i64 0), (Value.int IntKind.i64 0), (Value.int IntKind.i64 0)] := by kernel_rfl
@[simp] theorem eqg119 : P.eqGuardType P.depth 119 = false := by kernel_rfl
@[simp] theorem field119n0 : fieldB P 119 0 = some (0, 34) := by kernel_rfl
@[simp] theorem field119n1 : fieldB P 119 1 = some (1, 65) := by kernel_rfl
@[simp] theorem field119n2 : fieldB P 119 2 = some (3, 3) := by kernel_rfl
@[simp] theorem tyOk129 : tyOk P 129 = true := by kernel_rfl
@[simp] theorem isAggB129 : isAggB P 129 = false := by kernel_rfl
@[simp] theorem cellsOf129 : P.cellsOf 129 = 1 := by kernel_rfl
@[simp] theorem bytesOf129 : P.bytesOf 129 = 24 := by kernel_rfl
@[simp] theorem hasZero129 : hasZero P 129 = true := by kernel_rfl
@[simp] theorem zeroL129 : zeroL P 129 = [(Value.slice none 0 0)] := by kernel_rfl
@[simp] theorem sliceE129 : sliceE P 129 = some 134 := by kernel_rfl
@[simp] theorem tyOk132 : tyOk P 132 = true := by kernel_rfl
@[simp] theorem isAggB132 : isAggB P 132 = false := by kernel_rfl
@[simp] theorem cellsOf132 : P.cellsOf 132 = 1 := by kernel_rfl
@[simp] theorem bytesOf132 : P.bytesOf 132 = 8 := by kernel_rfl
@[simp] theorem hasZero132 : hasZero P 132 = true := by kernel_rfl
@[simp] theorem zeroL132 : zeroL P 132 = [(Value.int IntKind.u64 0)] := by kernel_rfl
@[simp] theorem intK132 : intK P 132 = some IntKind.u64 := by kernel_rfl
@[simp] theorem und132 : P.underlying 132 = some (.int .u64) := by kernel_rfl
@[simp] theorem tyOk134 : tyOk P 134 = true := by kernel_rfl
@[simp] theorem isAggB134 : isAggB P 134 = true := by kernel_rfl
@[simp] theorem cellsOf134 : P.cellsOf 134 = 6 := by kernel_rfl
@[simp] theorem bytesOf134 : P.bytesOf 134 = 56 := by kernel_rfl
@[simp] theorem hasZero134 : hasZero P 134 = true := by kernel_rfl
@[simp] theorem zeroL134 : zeroL P 134 = [(Value.int IntKind.u8 0), (Value.int IntKind.u64 0), (Value.int IntKind.i64 0), (Value.int IntKind.u64 0), (Value.string ByteArray.empty), (Value.bool false)] := by kernel_rfl
@[simp] theorem eqg134 : P.eqGuardType P.depth 134 = false := by kernel_rfl
@[simp] theorem field134n0 : fieldB P 134 0 = some (0, 5) := by kernel_rfl
@[simp] theorem field134n1 : fieldB P 134 1 = some (1, 132) := by kernel_rfl
@[simp] theorem field134n2 : fieldB P 134 2 = some (2, 2) := by kernel_rfl
@[simp] theorem field134n3 : fieldB P 134 3 = some (3, 132) := by kernel_rfl
@[simp] theorem field134n4 : fieldB P 134 4 = some (4, 9) := by kernel_rfl
@[simp] theorem field134n5 : fieldB P 134 5 = some (5, 4) := by kernel_rfl
@[simp] theorem tyOk137 : tyOk P 137 = true := by kernel_rfl
@[simp] theorem isAggB137 : isAggB P 137 = true := by kernel_rfl
@[simp] theorem cellsOf137 : P.cellsOf 137 = 1 := by kernel_rfl
@[simp] theorem bytesOf137 : P.bytesOf 137 = 24 := by kernel_rfl
@[simp] theorem hasZero137 : hasZero P 137 = true := by kernel_rfl
@[simp] theorem zeroL137 : zeroL P 137 = [(Value.slice none 0 0)] := by kernel_rfl
@[simp] theorem eqg137 : P.eqGuardType P.depth 137 = false := by kernel_rfl
@[simp] theorem field137n0 : fieldB P 137 0 = some (0, 22) := by kernel_rfl
@[simp] theorem tyOk140 : tyOk P 140 = true := by kernel_rfl
@[simp] theorem isAggB140 : isAggB P 140 = false := by kernel_rfl
@[simp] theorem cellsOf140 : P.cellsOf 140 = 1 := by kernel_rfl
@[simp] theorem bytesOf140 : P.bytesOf 140 = 24 := by kernel_rfl
@[simp] theorem hasZero140 : hasZero P 140 = true := by kernel_rfl
@[simp] theorem zeroL140 : zeroL P 140 = [(Value.slice none 0 0)] := by kernel_rfl
@[simp] theorem sliceE140 : sliceE P 140 = some 147 := by kernel_rfl
@[simp] theorem tyOk142 : tyOk P 142 = true := by kernel_rfl
@[simp] theorem isAggB142 : isAggB P 142 = true := by kernel_rfl
@[simp] theorem cellsOf142 : P.cellsOf 142 = 2 := by kernel_rfl
@[simp] theorem bytesOf142 : P.bytesOf 142 = 16 := by kernel_rfl
@[simp] theorem hasZero142 : hasZero P 142 = true := by kernel_rfl
@[simp] theorem zeroL142 : zeroL P 142 = [(Value.int IntKind.i64 0), (Value.int IntKind.i64 0)] := by kernel_rfl
@[simp] theorem eqg142 : P.eqGuardType P.depth 142 = false := by kernel_rfl
@[simp] theorem field142n0 : fieldB P 142 0 = some (0, 26) := by kernel_rfl
@[simp] theorem field142n1 : fieldB P 142 1 = some (1, 3) := by kernel_rfl
@[simp] theorem tyOk145 : tyOk P 145 = true := by kernel_rfl
@[simp] theorem isAggB145 : isAggB P 145 = false := by kernel_rfl
@[simp] theorem cellsOf145 : P.cellsOf 145 = 1 := by kernel_rfl
@[simp] theorem bytesOf145 : P.bytesOf 145 = 8 := by kernel_rfl
@[simp] theorem hasZero145 : hasZero P 145 = true := by kernel_rfl
@[simp] theorem zeroL145 : zeroL P 145 = [(Value.float FloatKind.f64 0)] := by kernel_rfl
@[simp] theorem tyOk147 : tyOk P 147 = true := by kernel_rfl
@[simp] theorem isAggB147 : isAggB P 147 = true := by kernel_rfl
@[simp] theorem cellsOf147 : P.cellsOf 147 = 6 := by kernel_rfl
@[simp] theorem bytesOf147 : P.bytesOf 147 = 56 := by kernel_rfl
@[simp] theorem hasZero147 : hasZero P 147 = true := by kernel_rfl
@[simp] theorem zeroL147 : zeroL P 147 = [(Value.int IntKind.u8 0), (Value.int IntKind.u64 0), (Value.int IntKind.i64 0), (Value.float FloatKind.f64 0), (Value.string ByteArray.empty), (Value.bool false)] := by kernel_rfl
@[simp] theorem eqg147 : P.eqGuardType P.depth 147 = false := by kernel_rfl
@[simp] theorem field147n0 : fieldB P 147 0 = some (0, 5) := by kernel_rfl
@[simp] theorem field147n1 : fieldB P 147 1 = some (1, 132) := by kernel_rfl
@[simp] theorem field147n2 : fieldB P 147 2 = some (2, 2) := by kernel_rfl
@[simp] theorem field147n3 : fieldB P 147 3 = some (3, 145) := by kernel_rfl
@[simp] theorem field147n4 : fieldB P 147 4 = some (4, 9) := by kernel_rfl
@[simp] theorem field147n5 : fieldB P 147 5 = some (5, 4) := by kernel_rfl
@[simp] theorem tyOk154 : tyOk P 154 = true := by kernel_rfl
@[simp] theorem isAggB154 : isAggB P 154 = false := by kernel_rfl
@[simp] theorem cellsOf154 : P.cellsOf 154 = 1 := by kernel_rfl
@[simp] theorem bytesOf154 : P.bytesOf 154 = 8 := by kernel_rfl
@[simp] theorem hasZero154 : hasZero P 154 = true := by kernel_rfl
@[simp] theorem zeroL154 : zeroL P 154 = [(Value.pointer none)] := by kernel_rfl
@[simp] theorem und154 : P.underlying 154 = some (.pointer 165) := by kernel_rfl
@[simp] theorem tyOk165 : tyOk P 165 = true := by kernel_rfl
@[simp] theorem isAggB165 : isAggB P 165 = true := by kernel_rfl
@[simp] theorem cellsOf165 : P.cellsOf 165 = 2 := by kernel_rfl
@[simp] theorem bytesOf165 : P.bytesOf 165 = 32 := by kernel_rfl
@[simp] theorem hasZero165 : hasZero P 165 = true := by kernel_rfl
@[simp] theorem zeroL165 : zeroL P 165 = [(Value.slice none 0 0), (Value.int IntKind.i64 0)] := by kernel_rfl
@[simp] theorem eqg165 : P.eqGuardType P.depth 165 = false := by kernel_rfl
@[simp] theorem field165n0 : fieldB P 165 0 = some (0, 22) := by kernel_rfl
@[simp] theorem field165n1 : fieldB P 165 1 = some (1, 3) := by kernel_rfl
@[simp] theorem al2 : pAlloc P 2 w = some (pt (sz w) 0, nw w ([(Value.int IntKind.i64 0)]) 2) := by rw [pAlloc_eq hasZero2, zeroL2]
@[simp] theorem ld2 (h : i < (mm w b).length) : pLoad P 2 (pt b i) w = some (gt (mm w b) i, w) := pLoad_scal tyOk2 isAggB2 h
@[simp] theorem st2 (hv : v.oneCell' = true) (hf : fz w b = false) (hi : i < (mm w b).length) : pStore P 2 (pt b i) v w = some (wr w b ((mm w b).set i v)) := pStore_one tyOk2 cellsOf2 hv hf hi
@[simp] theorem cv2 {s : TypeId} (hs : tyOk P s = true) : pConv P s 2 (.int k x) w = some (.int .i64 (IntKind.wrap .i64 x), w) := pConv_int hs intK2
@[simp] theorem al3 : pAlloc P 3 w = some (pt (sz w) 0, nw w ([(Value.int IntKind.i64 0)]) 3) := by rw [pAlloc_eq hasZero3, zeroL3]
@[simp] theorem ld3 (h : i < (mm w b).length) : pLoad P 3 (pt b i) w = some (gt (mm w b) i, w) := pLoad_scal tyOk3 isAggB3 h
@[simp] theorem st3 (hv : v.oneCell' = true) (hf : fz w b = false) (hi : i < (mm w b).length) : pStore P 3 (pt b i) v w = some (wr w b ((mm w b).set i v)) := pStore_one tyOk3 cellsOf3 hv hf hi
@[simp] theorem cv3 {s : TypeId} (hs : tyOk P s = true) : pConv P s 3 (.int k x) w = some (.int .i64 (IntKind.wrap .i64 x), w) := pConv_int hs intK3
@[simp] theorem al4 : pAlloc P 4 w = some (pt (sz w) 0, nw w ([(Value.bool false)]) 4) := by rw [pAlloc_eq hasZero4, zeroL4]
@[simp] theorem ld4 (h : i < (mm w b).length) : pLoad P 4 (pt b i) w = some (gt (mm w b) i, w) := pLoad_scal tyOk4 isAggB4 h
@[simp] theorem st4 (hv : v.oneCell' = true) (hf : fz w b = false) (hi : i < (mm w b).length) : pStore P 4 (pt b i) v w = some (wr w b ((mm w b).set i v)) := pStore_one tyOk4 cellsOf4 hv hf hi
@[simp] theorem al5 : pAlloc P 5 w = some (pt (sz w) 0, nw w ([(Value.int IntKind.u8 0)]) 5) := by rw [pAlloc_eq hasZero5, zeroL5]
@[simp] theorem ld5 (h : i < (mm w b).length) : pLoad P 5 (pt b i) w = some (gt (mm w b) i, w) := pLoad_scal tyOk5 isAggB5 h
@[simp] theorem st5 (hv : v.oneCell' = true) (hf : fz w b = false) (hi : i < (mm w b).length) : pStore P 5 (pt b i) v w = some (wr w b ((mm w b).set i v)) := pStore_one tyOk5 cellsOf5 hv hf hi
@[simp] theorem cv5 {s : TypeId} (hs : tyOk P s = true) : pConv P s 5 (.int k x) w = some (.int .u8 (IntKind.wrap .u8 x), w) := pConv_int hs intK5
@[simp] theorem al9 : pAlloc P 9 w = some (pt (sz w) 0, nw w ([(Value.string ByteArray.empty)]) 9) := by rw [pAlloc_eq hasZero9, zeroL9]
@[simp] theorem ld9 (h : i < (mm w b).length) : pLoad P 9 (pt b i) w = some (gt (mm w b) i, w) := pLoad_scal tyOk9 isAggB9 h
@[simp] theorem st9 (hv : v.oneCell' = true) (hf : fz w b = false) (hi : i < (mm w b).length) : pStore P 9 (pt b i) v w = some (wr w b ((mm w b).set i v)) := pStore_one tyOk9 cellsOf9 hv hf hi
@[simp] theorem al22 : pAlloc P 22 w = some (pt (sz w) 0, nw w ([(Value.slice none 0 0)]) 22) := by rw [pAlloc_eq hasZero22, zeroL22]
@[simp] theorem ld22 (h : i < (mm w b).length) : pLoad P 22 (pt b i) w = some (gt (mm w b) i, w) := pLoad_scal tyOk22 isAggB22 h
@[simp] theorem st22 (hv : v.oneCell' = true) (hf : fz w b = false) (hi : i < (mm w b).length) : pStore P 22 (pt b i) v w = some (wr w b ((mm w b).set i v)) := pStore_one tyOk22 cellsOf22 hv hf hi
@[simp] theorem ia22 (h0 : 0 ≤ j) (h1 : j < n) : pIndexAddr P 22 (sl b o n c) (.int k j) w = some (pt b (o + j.toNat * 1), w) := by
  have := pIndexAddr_slice (w := w) (b := b) (o := o) (c := c) (k := k) sliceE22 tyOk5 h0 h1; rwa [cellsOf5] at this
@[simp] theorem len22 {ty : TypeId} {a : Option Addr} : pBuiltin P .len #[22] ty [.slice a n c] w = some (i64 n, w) := len_slice sliceE22
@[simp] theorem slL22 (h0 : 0 ≤ x) (h1 : x ≤ (n : Int)) (hnc : n ≤ c) : pSlice P 22 (sl b o n c) (some (.int k x)) none none w = some (.slice (some ⟨b, if c = x.toNat then o else o + x.toNat * 1, none⟩) (n - x.toNat) (c - x.toNat), w) := by
  have := pSlice_slice (P := P) (t := 22) (w := w) (b := b) (o := o) (lo := (some (.int k x))) (hi := none) sliceE22 tyOk5 rfl rfl h0 h1 (by simp [bHi]; omega) hnc; simpa [bLo, bHi] using this
@[simp] theorem slH22 {k' : IntKind} {y : Int} (h0 : 0 ≤ y) (h1 : y ≤ (c : Int)) (hnc : n ≤ c) : pSlice P 22 (sl b o n c) none (some (.int k' y)) none w = some (.slice (some ⟨b, o, none⟩) (y.toNat) (c), w) := by
  have := pSlice_slice (P := P) (t := 22) (w := w) (b := b) (o := o) (lo := none) (hi := (some (.int k' y))) sliceE22 tyOk5 rfl rfl (Int.le_refl 0) h0 h1 hnc; simpa [bLo, bHi] using this
@[simp] theorem slB22 {k' : IntKind} {y : Int} (h0 : 0 ≤ x) (h1 : x ≤ y) (h2 : y ≤ (c : Int)) (hnc : n ≤ c) : pSlice P 22 (sl b o n c) (some (.int k x)) (some (.int k' y)) none w = some (.slice (some ⟨b, if c = x.toNat then o else o + x.toNat * 1, none⟩) (y.toNat - x.toNat) (c - x.toNat), w) := by
  have := pSlice_slice (P := P) (t := 22) (w := w) (b := b) (o := o) (lo := (some (.int k x))) (hi := (some (.int k' y))) sliceE22 tyOk5 rfl rfl h0 h1 h2 hnc; simpa [bLo, bHi] using this
@[simp] theorem slN22  (hnc : n ≤ c) : pSlice P 22 (sl b o n c) none none none w = some (.slice (some ⟨b, o, none⟩) (n) (c), w) := by
  have := pSlice_slice (P := P) (t := 22) (w := w) (b := b) (o := o) (lo := none) (hi := none) sliceE22 tyOk5 rfl rfl (Int.le_refl 0) (by simp [bLo, bHi]) (by simp [bHi]; omega) hnc; simpa [bLo, bHi] using this
@[simp] theorem bsl22 {ps : List (Nat × Value)} (hbig : n * 1 ≤ 2 ^ 24) (hp : ∀ p ∈ ps, p.2.cells.size = 1 ∧ p.1 < n) : pBuildSlice P 22 n ps w = some (sl (sz w) 0 n n,
    nw w (ps.foldl (fun l p => splice l (p.1 * 1) p.2.cells.toList) (List.replicate n ([(Value.int IntKind.u8 0)])).flatten) 5) := by
  have := pBuildSlice_eq (w := w) sliceE22 hasZero5 tyOk5 cellsOf5 (by rw [zeroL5]; rfl) hbig hp; rwa [zeroL5] at this
@[simp] theorem cvs22 : pConv P 22 22 (sl b o n c) w = some (sl b o n c, mkS w b) := conv_same sliceE22 intK5
@[simp] theorem al25 : pAlloc P 25 w = some (pt (sz w) 0, nw w (bs (zb 64)) 25) := by rw [pAlloc_eq hasZero25, zeroL25]
@[simp] theorem ld25 (h : i + 64 ≤ (mm w b).length) : pLoad P 25 (pt b i) w = some (.agg (((mm w b).drop i).take 64).toArray, w) := by
  have := pLoad_agg (w := w) (b := b) (i := i) tyOk25 isAggB25 (by rw [cellsOf25]; exact h); rwa [cellsOf25] at this
@[simp] theorem st25 (hs : a.size = 64) (hv : ∀ v ∈ a.toList, v.oneCell' = true) (hf : fz w b = false) (hi : i + 64 ≤ (mm w b).length) : pStore P 25 (pt b i) (.agg a) w = some (wr w b (splice (mm w b) i a.toList)) :=
  pStore_agg tyOk25 (by rw [cellsOf25, hs]) hv hf (by rw [hs]; exact hi)
@[simp] theorem ia25 (h0 : 0 ≤ j) (h1 : j < 64) : pIndexAddr P 25 (pt b o) (.int k j) w = some (pt b (o + j.toNat * 1), w) := by
  have := pIndexAddr_arr (w := w) (b := b) (o := o) (k := k) arrE25 tyOk5 h0 h1; rwa [cellsOf5] at this
@[simp] theorem slL25 (h0 : 0 ≤ x) (h1 : x ≤ (64 : Int))  : pSlice P 25 (pt b o) (some (.int k x)) none none w = some (.slice (some ⟨b, if 64 = x.toNat then o else o + x.toNat * 1, none⟩) (64 - x.toNat) (64 - x.toNat), w) := by
  have := pSlice_arr (P := P) (t := 25) (w := w) (b := b) (o := o) (lo := (some (.int k x))) (hi := none) arrE25 tyOk5 rfl rfl h0 h1 (by simp [bHi]) ; simpa [bLo, bHi] using this
@[simp] theorem slH25 {k' : IntKind} {y : Int} (h0 : 0 ≤ y) (h1 : y ≤ (64 : Int))  : pSlice P 25 (pt b o) none (some (.int k' y)) none w = some (.slice (some ⟨b, o, none⟩) (y.toNat) (64), w) := by
  have := pSlice_arr (P := P) (t := 25) (w := w) (b := b) (o := o) (lo := none) (hi := (some (.int k' y))) arrE25 tyOk5 rfl rfl (Int.le_refl 0) h0 h1 ; simpa [bLo, bHi] using this
@[simp] theorem slB25 {k' : IntKind} {y : Int} (h0 : 0 ≤ x) (h1 : x ≤ y) (h2 : y ≤ (64 : Int))  : pSlice P 25 (pt b o) (some (.int k x)) (some (.int k' y)) none w = some (.slice (some ⟨b, if 64 = x.toNat then o else o + x.toNat * 1, none⟩) (y.toNat - x.toNat) (64 - x.toNat), w) := by
  have := pSlice_arr (P := P) (t := 25) (w := w) (b := b) (o := o) (lo := (some (.int k x))) (hi := (some (.int k' y))) arrE25 tyOk5 rfl rfl h0 h1 h2 ; simpa [bLo, bHi] using this
@[simp] theorem slN25   : pSlice P 25 (pt b o) none none none w = some (.slice (some ⟨b, o, none⟩) (64) (64), w) := by
  have := pSlice_arr (P := P) (t := 25) (w := w) (b := b) (o := o) (lo := none) (hi := none) arrE25 tyOk5 rfl rfl (Int.le_refl 0) (by simp [bLo, bHi]) (by simp [bHi]) ; simpa [bLo, bHi] using this
@[simp] theorem ix25 (h0 : 0 ≤ j) (h1 : j < 64) (hs : a.size = 64) : pIndex P 25 (.agg a) (.int k j) w = some (gt a.toList j.toNat, w) := by
  have := pIndex_arr_scal (w := w) (k := k) (x := a) arrE25 tyOk5 isAggB5 h0 h1 (by rw [cellsOf5, hs]; omega); simpa using this
@[simp] theorem bd25 {ps : List (Nat × Value)} (hp : ∀ p ∈ ps, p.1 < 64 ∧ p.2.oneCell' = true) : pBuild P 25 ps w = some (.agg (ps.foldl (fun l p => l.set p.1 p.2) (bs (zb 64))).toArray, w) := by
  have := pBuild_arr (w := w) hasZero25 arrE25 tyOk5 cellsOf5 (n := 64) (by rw [zeroL25]; rfl) hp; rwa [zeroL25] at this
@[simp] theorem eqs25 {lit : Bool} {p q : List UInt8} (h1 : p.length = 64) (h2 : q.length = 64) : pBin P .eql 25 lit (sec p) (sec q) w = some (.bool (decide (p = q)), w) := eql_sec arrE25 intK5 cellsOf5 tyOk5 isAggB5 eqg25 h1 h2
@[simp] theorem nes25 {lit : Bool} {p q : List UInt8} (h1 : p.length = 64) (h2 : q.length = 64) : pBin P .neq 25 lit (sec p) (sec q) w = some (.bool (decide (p ≠ q)), w) := neq_sec arrE25 intK5 cellsOf5 tyOk5 isAggB5 eqg25 h1 h2
@[simp] theorem al26 : pAlloc P 26 w = some (pt (sz w) 0, nw w ([(Value.int IntKind.i64 0)]) 26) := by rw [pAlloc_eq hasZero26, zeroL26]
@[simp] theorem ld26 (h : i < (mm w b).length) : pLoad P 26 (pt b i) w = some (gt (mm w b) i, w) := pLoad_scal tyOk26 isAggB26 h
@[simp] theorem st26 (hv : v.oneCell' = true) (hf : fz w b = false) (hi : i < (mm w b).length) : pStore P 26 (pt b i) v w = some (wr w b ((mm w b).set i v)) := pStore_one tyOk26 cellsOf26 hv hf hi
@[simp] theorem cv26 {s : TypeId} (hs : tyOk P s = true) : pConv P s 26 (.int k x) w = some (.int .i64 (IntKind.wrap .i64 x), w) := pConv_int hs intK26
@[simp] theorem al34 : pAlloc P 34 w = some (pt (sz w) 0, nw w ([(Value.pointer none)]) 34) := by rw [pAlloc_eq hasZero34, zeroL34]
@[simp] theorem ld34 (h : i < (mm w b).length) : pLoad P 34 (pt b i) w = some (gt (mm w b) i, w) := pLoad_scal tyOk34 isAggB34 h
@[simp] theorem st34 (hv : v.oneCell' = true) (hf : fz w b = false) (hi : i < (mm w b).length) : pStore P 34 (pt b i) v w = some (wr w b ((mm w b).set i v)) := pStore_one tyOk34 cellsOf34 hv hf hi
@[simp] theorem eqn34 {lit : Bool} {q : Option Addr} : pBin P .eql 34 lit (.pointer q) (.pointer none) w = some (.bool q.isNone, w) := eqNil und34
@[simp] theorem nen34 {lit : Bool} {q : Option Addr} : pBin P .neq 34 lit (.pointer q) (.pointer none) w = some (.bool q.isSome, w) := neNil und34
@[simp] theorem al42 : pAlloc P 42 w = some (pt (sz w) 0, nw w ([(Value.slice none 0 0)]) 42) := by rw [pAlloc_eq hasZero42, zeroL42]
@[simp] theorem ld42 (h : i < (mm w b).length) : pLoad P 42 (pt b i) w = some (gt (mm w b) i, w) := pLoad_scal tyOk42 isAggB42 h
@[simp] theorem st42 (hv : v.oneCell' = true) (hf : fz w b = false) (hi : i < (mm w b).length) : pStore P 42 (pt b i) v w = some (wr w b ((mm w b).set i v)) := pStore_one tyOk42 cellsOf42 hv hf hi
@[simp] theorem ia42 (h0 : 0 ≤ j) (h1 : j < n) : pIndexAddr P 42 (sl b o n c) (.int k j) w = some (pt b (o + j.toNat * 4), w) := by
  have := pIndexAddr_slice (w := w) (b := b) (o := o) (c := c) (k := k) sliceE42 tyOk46 h0 h1; rwa [cellsOf46] at this
@[simp] theorem len42 {ty : TypeId} {a : Option Addr} : pBuiltin P .len #[42] ty [.slice a n c] w = some (i64 n, w) := len_slice sliceE42
@[simp] theorem slL42 (h0 : 0 ≤ x) (h1 : x ≤ (n : Int)) (hnc : n ≤ c) : pSlice P 42 (sl b o n c) (some (.int k x)) none none w = some (.slice (some ⟨b, if c = x.toNat then o else o + x.toNat * 4, none⟩) (n - x.toNat) (c - x.toNat), w) := by
  have := pSlice_slice (P := P) (t := 42) (w := w) (b := b) (o := o) (lo := (some (.int k x))) (hi := none) sliceE42 tyOk46 rfl rfl h0 h1 (by simp [bHi]; omega) hnc; simpa [bLo, bHi] using this
@[simp] theorem slH42 {k' : IntKind} {y : Int} (h0 : 0 ≤ y) (h1 : y ≤ (c : Int)) (hnc : n ≤ c) : pSlice P 42 (sl b o n c) none (some (.int k' y)) none w = some (.slice (some ⟨b, o, none⟩) (y.toNat) (c), w) := by
  have := pSlice_slice (P := P) (t := 42) (w := w) (b := b) (o := o) (lo := none) (hi := (some (.int k' y))) sliceE42 tyOk46 rfl rfl (Int.le_refl 0) h0 h1 hnc; simpa [bLo, bHi] using this
@[simp] theorem slB42 {k' : IntKind} {y : Int} (h0 : 0 ≤ x) (h1 : x ≤ y) (h2 : y ≤ (c : Int)) (hnc : n ≤ c) : pSlice P 42 (sl b o n c) (some (.int k x)) (some (.int k' y)) none w = some (.slice (some ⟨b, if c = x.toNat then o else o + x.toNat * 4, none⟩) (y.toNat - x.toNat) (c - x.toNat), w) := by
  have := pSlice_slice (P := P) (t := 42) (w := w) (b := b) (o := o) (lo := (some (.int k x))) (hi := (some (.int k' y))) sliceE42 tyOk46 rfl rfl h0 h1 h2 hnc; simpa [bLo, bHi] using this
@[simp] theorem slN42  (hnc : n ≤ c) : pSlice P 42 (sl b o n c) none none none w = some (.slice (some ⟨b, o, none⟩) (n) (c), w) := by
  have := pSlice_slice (P := P) (t := 42) (w := w) (b := b) (o := o) (lo := none) (hi := none) sliceE42 tyOk46 rfl rfl (Int.le_refl 0) (by simp [bLo, bHi]) (by simp [bHi]; omega) hnc; simpa [bLo, bHi] using this
@[simp] theorem bsl42 {ps : List (Nat × Value)} (hbig : n * 4 ≤ 2 ^ 24) (hp : ∀ p ∈ ps, p.2.cells.size = 4 ∧ p.1 < n) : pBuildSlice P 42 n ps w = some (sl (sz w) 0 n n,
    nw w (ps.foldl (fun l p => splice l (p.1 * 4) p.2.cells.toList) (List.replicate n ([(Value.int IntKind.i64 0), (Value.int IntKind.i64 0), (Value.int IntKind.u8 0), (Value.slice none 0 0)])).flatten) 46) := by
  have := pBuildSlice_eq (w := w) sliceE42 hasZero46 tyOk46 cellsOf46 (by rw [zeroL46]; rfl) hbig hp; rwa [zeroL46] at this
@[simp] theorem al43 : pAlloc P 43 w = some (pt (sz w) 0, nw w ([(Value.slice none 0 0)]) 43) := by rw [pAlloc_eq hasZero43, zeroL43]
@[simp] theorem ld43 (h : i < (mm w b).length) : pLoad P 43 (pt b i) w = some (gt (mm w b) i, w) := pLoad_scal tyOk43 isAggB43 h
@[simp] theorem st43 (hv : v.oneCell' = true) (hf : fz w b = false) (hi : i < (mm w b).length) : pStore P 43 (pt b i) v w = some (wr w b ((mm w b).set i v)) := pStore_one tyOk43 cellsOf43 hv hf hi
@[simp] theorem ia43 (h0 : 0 ≤ j) (h1 : j < n) : pIndexAddr P 43 (sl b o n c) (.int k j) w = some (pt b (o + j.toNat * 1), w) := by
  have := pIndexAddr_slice (w := w) (b := b) (o := o) (c := c) (k := k) sliceE43 tyOk3 h0 h1; rwa [cellsOf3] at this
@[simp] theorem len43 {ty : TypeId} {a : Option Addr} : pBuiltin P .len #[43] ty [.slice a n c] w = some (i64 n, w) := len_slice sliceE43
@[simp] theorem slL43 (h0 : 0 ≤ x) (h1 : x ≤ (n : Int)) (hnc : n ≤ c) : pSlice P 43 (sl b o n c) (some (.int k x)) none none w = some (.slice (some ⟨b, if c = x.toNat then o else o + x.toNat * 1, none⟩) (n - x.toNat) (c - x.toNat), w) := by
  have := pSlice_slice (P := P) (t := 43) (w := w) (b := b) (o := o) (lo := (some (.int k x))) (hi := none) sliceE43 tyOk3 rfl rfl h0 h1 (by simp [bHi]; omega) hnc; simpa [bLo, bHi] using this
@[simp] theorem slH43 {k' : IntKind} {y : Int} (h0 : 0 ≤ y) (h1 : y ≤ (c : Int)) (hnc : n ≤ c) : pSlice P 43 (sl b o n c) none (some (.int k' y)) none w = some (.slice (some ⟨b, o, none⟩) (y.toNat) (c), w) := by
  have := pSlice_slice (P := P) (t := 43) (w := w) (b := b) (o := o) (lo := none) (hi := (some (.int k' y))) sliceE43 tyOk3 rfl rfl (Int.le_refl 0) h0 h1 hnc; simpa [bLo, bHi] using this
@[simp] theorem slB43 {k' : IntKind} {y : Int} (h0 : 0 ≤ x) (h1 : x ≤ y) (h2 : y ≤ (c : Int)) (hnc : n ≤ c) : pSlice P 43 (sl b o n c) (some (.int k x)) (some (.int k' y)) none w = some (.slice (some ⟨b, if c = x.toNat then o else o + x.toNat * 1, none⟩) (y.toNat - x.toNat) (c - x.toNat), w) := by
  have := pSlice_slice (P := P) (t := 43) (w := w) (b := b) (o := o) (lo := (some (.int k x))) (hi := (some (.int k' y))) sliceE43 tyOk3 rfl rfl h0 h1 h2 hnc; simpa [bLo, bHi] using this
@[simp] theorem slN43  (hnc : n ≤ c) : pSlice P 43 (sl b o n c) none none none w = some (.slice (some ⟨b, o, none⟩) (n) (c), w) := by
  have := pSlice_slice (P := P) (t := 43) (w := w) (b := b) (o := o) (lo := none) (hi := none) sliceE43 tyOk3 rfl rfl (Int.le_refl 0) (by simp [bLo, bHi]) (by simp [bHi]; omega) hnc; simpa [bLo, bHi] using this
@[simp] theorem bsl43 {ps : List (Nat × Value)} (hbig : n * 1 ≤ 2 ^ 24) (hp : ∀ p ∈ ps, p.2.cells.size = 1 ∧ p.1 < n) : pBuildSlice P 43 n ps w = some (sl (sz w) 0 n n,
    nw w (ps.foldl (fun l p => splice l (p.1 * 1) p.2.cells.toList) (List.replicate n ([(Value.int IntKind.i64 0)])).flatten) 3) := by
  have := pBuildSlice_eq (w := w) sliceE43 hasZero3 tyOk3 cellsOf3 (by rw [zeroL3]; rfl) hbig hp; rwa [zeroL3] at this
@[simp] theorem al46 : pAlloc P 46 w = some (pt (sz w) 0, nw w ([(Value.int IntKind.i64 0), (Value.int IntKind.i64 0), (Value.int IntKind.u8 0), (Value.slice none 0 0)]) 46) := by rw [pAlloc_eq hasZero46, zeroL46]
@[simp] theorem ld46 (h : i + 4 ≤ (mm w b).length) : pLoad P 46 (pt b i) w = some (.agg (((mm w b).drop i).take 4).toArray, w) := by
  have := pLoad_agg (w := w) (b := b) (i := i) tyOk46 isAggB46 (by rw [cellsOf46]; exact h); rwa [cellsOf46] at this
@[simp] theorem st46 (hs : a.size = 4) (hv : ∀ v ∈ a.toList, v.oneCell' = true) (hf : fz w b = false) (hi : i + 4 ≤ (mm w b).length) : pStore P 46 (pt b i) (.agg a) w = some (wr w b (splice (mm w b) i a.toList)) :=
  pStore_agg tyOk46 (by rw [cellsOf46, hs]) hv hf (by rw [hs]; exact hi)
@[simp] theorem bf46 {ps : List (Nat × Value)} (hp : ∀ p ∈ ps, p.1 < 4 ∧ p.2.oneCell' = true) : pBuild P 46 ps w = some (.agg (ps.foldl (fun l p => l.set p.1 p.2) ([(Value.int IntKind.i64 0), (Value.int IntKind.i64 0), (Value.int IntKind.u8 0), (Value.slice none 0 0)])).toArray, w) := by
  have := pBuild_flat (w := w) (ps := ps) hasZero46 (by kernel_rfl) (by kernel_rfl) (by rw [zeroL46]; exact hp); rwa [zeroL46] at this
@[simp] theorem fa46n0 : pFieldAddr P 46 (pt b i) 0 w = some (pt b (i + 0), w) := pFieldAddr_eq field46n0 tyOk3 (by rw [cellsOf3]; rfl)
@[simp] theorem fi46n0 (h : 0 < a.size) : pField P 46 (.agg a) 0 w = some (gt a.toList 0, w) := pField_scal field46n0 tyOk3 isAggB3 h
@[simp] theorem fa46n1 : pFieldAddr P 46 (pt b i) 1 w = some (pt b (i + 1), w) := pFieldAddr_eq field46n1 tyOk3 (by rw [cellsOf3]; rfl)
@[simp] theorem fi46n1 (h : 1 < a.size) : pField P 46 (.agg a) 1 w = some (gt a.toList 1, w) := pField_scal field46n1 tyOk3 isAggB3 h
@[simp] theorem fa46n2 : pFieldAddr P 46 (pt b i) 2 w = some (pt b (i + 2), w) := pFieldAddr_eq field46n2 tyOk5 (by rw [cellsOf5]; rfl)
@[simp] theorem fi46n2 (h : 2 < a.size) : pField P 46 (.agg a) 2 w = some (gt a.toList 2, w) := pField_scal field46n2 tyOk5 isAggB5 h
@[simp] theorem fa46n3 : pFieldAddr P 46 (pt b i) 3 w = some (pt b (i + 3), w) := pFieldAddr_eq field46n3 tyOk43 (by rw [cellsOf43]; rfl)
@[simp] theorem fi46n3 (h : 3 < a.size) : pField P 46 (.agg a) 3 w = some (gt a.toList 3, w) := pField_scal field46n3 tyOk43 isAggB43 h
@[simp] theorem al48 : pAlloc P 48 w = some (pt (sz w) 0, nw w (bs (zb 512)) 48) := by rw [pAlloc_eq hasZero48, zeroL48]
@[simp] theorem ld48 (h : i + 512 ≤ (mm w b).length) : pLoad P 48 (pt b i) w = some (.agg (((mm w b).drop i).take 512).toArray, w) := by
  have := pLoad_agg (w := w) (b := b) (i := i) tyOk48 isAggB48 (by rw [cellsOf48]; exact h); rwa [cellsOf48] at this
@[simp] theorem st48 (hs : a.size = 512) (hv : ∀ v ∈ a.toList, v.oneCell' = true) (hf : fz w b = false) (hi : i + 512 ≤ (mm w b).length) : pStore P 48 (pt b i) (.agg a) w = some (wr w b (splice (mm w b) i a.toList)) :=
  pStore_agg tyOk48 (by rw [cellsOf48, hs]) hv hf (by rw [hs]; exact hi)
@[simp] theorem ia48 (h0 : 0 ≤ j) (h1 : j < 8) : pIndexAddr P 48 (pt b o) (.int k j) w = some (pt b (o + j.toNat * 64), w) := by
  have := pIndexAddr_arr (w := w) (b := b) (o := o) (k := k) arrE48 tyOk25 h0 h1; rwa [cellsOf25] at this
@[simp] theorem slL48 (h0 : 0 ≤ x) (h1 : x ≤ (8 : Int))  : pSlice P 48 (pt b o) (some (.int k x)) none none w = some (.slice (some ⟨b, if 8 = x.toNat then o else o + x.toNat * 64, none⟩) (8 - x.toNat) (8 - x.toNat), w) := by
  have := pSlice_arr (P := P) (t := 48) (w := w) (b := b) (o := o) (lo := (some (.int k x))) (hi := none) arrE48 tyOk25 rfl rfl h0 h1 (by simp [bHi]) ; simpa [bLo, bHi] using this
@[simp] theorem slH48 {k' : IntKind} {y : Int} (h0 : 0 ≤ y) (h1 : y ≤ (8 : Int))  : pSlice P 48 (pt b o) none (some (.int k' y)) none w = some (.slice (some ⟨b, o, none⟩) (y.toNat) (8), w) := by
  have := pSlice_arr (P := P) (t := 48) (w := w) (b := b) (o := o) (lo := none) (hi := (some (.int k' y))) arrE48 tyOk25 rfl rfl (Int.le_refl 0) h0 h1 ; simpa [bLo, bHi] using this
@[simp] theorem slB48 {k' : IntKind} {y : Int} (h0 : 0 ≤ x) (h1 : x ≤ y) (h2 : y ≤ (8 : Int))  : pSlice P 48 (pt b o) (some (.int k x)) (some (.int k' y)) none w = some (.slice (some ⟨b, if 8 = x.toNat then o else o + x.toNat * 64, none⟩) (y.toNat - x.toNat) (8 - x.toNat), w) := by
  have := pSlice_arr (P := P) (t := 48) (w := w) (b := b) (o := o) (lo := (some (.int k x))) (hi := (some (.int k' y))) arrE48 tyOk25 rfl rfl h0 h1 h2 ; simpa [bLo, bHi] using this
@[simp] theorem slN48   : pSlice P 48 (pt b o) none none none w = some (.slice (some ⟨b, o, none⟩) (8) (8), w) := by
  have := pSlice_arr (P := P) (t := 48) (w := w) (b := b) (o := o) (lo := none) (hi := none) arrE48 tyOk25 rfl rfl (Int.le_refl 0) (by simp [bLo, bHi]) (by simp [bHi]) ; simpa [bLo, bHi] using this
@[simp] theorem al49 : pAlloc P 49 w = some (pt (sz w) 0, nw w ([(Value.bool false), (Value.bool false), (Value.bool false), (Value.bool false), (Value.bool false), (Value.bool false), (Value.bool false), (Value.bool false)]) 49) := by rw [pAlloc_eq hasZero49, zeroL49]
@[simp] theorem ld49 (h : i + 8 ≤ (mm w b).length) : pLoad P 49 (pt b i) w = some (.agg (((mm w b).drop i).take 8).toArray, w) := by
  have := pLoad_agg (w := w) (b := b) (i := i) tyOk49 isAggB49 (by rw [cellsOf49]; exact h); rwa [cellsOf49] at this
@[simp] theorem st49 (hs : a.size = 8) (hv : ∀ v ∈ a.toList, v.oneCell' = true) (hf : fz w b = false) (hi : i + 8 ≤ (mm w b).length) : pStore P 49 (pt b i) (.agg a) w = some (wr w b (splice (mm w b) i a.toList)) :=
  pStore_agg tyOk49 (by rw [cellsOf49, hs]) hv hf (by rw [hs]; exact hi)
@[simp] theorem ia49 (h0 : 0 ≤ j) (h1 : j < 8) : pIndexAddr P 49 (pt b o) (.int k j) w = some (pt b (o + j.toNat * 1), w) := by
  have := pIndexAddr_arr (w := w) (b := b) (o := o) (k := k) arrE49 tyOk4 h0 h1; rwa [cellsOf4] at this
@[simp] theorem slL49 (h0 : 0 ≤ x) (h1 : x ≤ (8 : Int))  : pSlice P 49 (pt b o) (some (.int k x)) none none w = some (.slice (some ⟨b, if 8 = x.toNat then o else o + x.toNat * 1, none⟩) (8 - x.toNat) (8 - x.toNat), w) := by
  have := pSlice_arr (P := P) (t := 49) (w := w) (b := b) (o := o) (lo := (some (.int k x))) (hi := none) arrE49 tyOk4 rfl rfl h0 h1 (by simp [bHi]) ; simpa [bLo, bHi] using this
@[simp] theorem slH49 {k' : IntKind} {y : Int} (h0 : 0 ≤ y) (h1 : y ≤ (8 : Int))  : pSlice P 49 (pt b o) none (some (.int k' y)) none w = some (.slice (some ⟨b, o, none⟩) (y.toNat) (8), w) := by
  have := pSlice_arr (P := P) (t := 49) (w := w) (b := b) (o := o) (lo := none) (hi := (some (.int k' y))) arrE49 tyOk4 rfl rfl (Int.le_refl 0) h0 h1 ; simpa [bLo, bHi] using this
@[simp] theorem slB49 {k' : IntKind} {y : Int} (h0 : 0 ≤ x) (h1 : x ≤ y) (h2 : y ≤ (8 : Int))  : pSlice P 49 (pt b o) (some (.int k x)) (some (.int k' y)) none w = some (.slice (some ⟨b, if 8 = x.toNat then o else o + x.toNat * 1, none⟩) (y.toNat - x.toNat) (8 - x.toNat), w) := by
  have := pSlice_arr (P := P) (t := 49) (w := w) (b := b) (o := o) (lo := (some (.int k x))) (hi := (some (.int k' y))) arrE49 tyOk4 rfl rfl h0 h1 h2 ; simpa [bLo, bHi] using this
@[simp] theorem slN49   : pSlice P 49 (pt b o) none none none w = some (.slice (some ⟨b, o, none⟩) (8) (8), w) := by
  have := pSlice_arr (P := P) (t := 49) (w := w) (b := b) (o := o) (lo := none) (hi := none) arrE49 tyOk4 rfl rfl (Int.le_refl 0) (by simp [bLo, bHi]) (by simp [bHi]) ; simpa [bLo, bHi] using this
@[simp] theorem ix49 (h0 : 0 ≤ j) (h1 : j < 8) (hs : a.size = 8) : pIndex P 49 (.agg a) (.int k j) w = some (gt a.toList j.toNat, w) := by
  have := pIndex_arr_scal (w := w) (k := k) (x := a) arrE49 tyOk4 isAggB4 h0 h1 (by rw [cellsOf4, hs]; omega); simpa using this
@[simp] theorem bd49 {ps : List (Nat × Value)} (hp : ∀ p ∈ ps, p.1 < 8 ∧ p.2.oneCell' = true) : pBuild P 49 ps w = some (.agg (ps.foldl (fun l p => l.set p.1 p.2) ([(Value.bool false), (Value.bool false), (Value.bool false), (Value.bool false), (Value.bool false), (Value.bool false), (Value.bool false), (Value.bool false)])).toArray, w) := by
  have := pBuild_arr (w := w) hasZero49 arrE49 tyOk4 cellsOf4 (n := 8) (by rw [zeroL49]; rfl) hp; rwa [zeroL49] at this
@[simp] theorem al52 : pAlloc P 52 w = some (pt (sz w) 0, nw w ([(Value.pointer none)]) 52) := by rw [pAlloc_eq hasZero52, zeroL52]
@[simp] theorem ld52 (h : i < (mm w b).length) : pLoad P 52 (pt b i) w = some (gt (mm w b) i, w) := pLoad_scal tyOk52 isAggB52 h
@[simp] theorem st52 (hv : v.oneCell' = true) (hf : fz w b = false) (hi : i < (mm w b).length) : pStore P 52 (pt b i) v w = some (wr w b ((mm w b).set i v)) := pStore_one tyOk52 cellsOf52 hv hf hi
@[simp] theorem eqn52 {lit : Bool} {q : Option Addr} : pBin P .eql 52 lit (.pointer q) (.pointer none) w = some (.bool q.isNone, w) := eqNil und52
@[simp] theorem nen52 {lit : Bool} {q : Option Addr} : pBin P .neq 52 lit (.pointer q) (.pointer none) w = some (.bool q.isSome, w) := neNil und52
@[simp] theorem al65 : pAlloc P 65 w = some (pt (sz w) 0, nw w ([(Value.int IntKind.i64 0), (Value.int IntKind.i64 0)]) 65) := by rw [pAlloc_eq hasZero65, zeroL65]
@[simp] theorem ld65 (h : i + 2 ≤ (mm w b).length) : pLoad P 65 (pt b i) w = some (.agg (((mm w b).drop i).take 2).toArray, w) := by
  have := pLoad_agg (w := w) (b := b) (i := i) tyOk65 isAggB65 (by rw [cellsOf65]; exact h); rwa [cellsOf65] at this
@[simp] theorem st65 (hs : a.size = 2) (hv : ∀ v ∈ a.toList, v.oneCell' = true) (hf : fz w b = false) (hi : i + 2 ≤ (mm w b).length) : pStore P 65 (pt b i) (.agg a) w = some (wr w b (splice (mm w b) i a.toList)) :=
  pStore_agg tyOk65 (by rw [cellsOf65, hs]) hv hf (by rw [hs]; exact hi)
@[simp] theorem bf65 {ps : List (Nat × Value)} (hp : ∀ p ∈ ps, p.1 < 2 ∧ p.2.oneCell' = true) : pBuild P 65 ps w = some (.agg (ps.foldl (fun l p => l.set p.1 p.2) ([(Value.int IntKind.i64 0), (Value.int IntKind.i64 0)])).toArray, w) := by
  have := pBuild_flat (w := w) (ps := ps) hasZero65 (by kernel_rfl) (by kernel_rfl) (by rw [zeroL65]; exact hp); rwa [zeroL65] at this
@[simp] theorem fa65n0 : pFieldAddr P 65 (pt b i) 0 w = some (pt b (i + 0), w) := pFieldAddr_eq field65n0 tyOk3 (by rw [cellsOf3]; rfl)
@[simp] theorem fi65n0 (h : 0 < a.size) : pField P 65 (.agg a) 0 w = some (gt a.toList 0, w) := pField_scal field65n0 tyOk3 isAggB3 h
@[simp] theorem fa65n1 : pFieldAddr P 65 (pt b i) 1 w = some (pt b (i + 1), w) := pFieldAddr_eq field65n1 tyOk3 (by rw [cellsOf3]; rfl)
@[simp] theorem fi65n1 (h : 1 < a.size) : pField P 65 (.agg a) 1 w = some (gt a.toList 1, w) := pField_scal field65n1 tyOk3 isAggB3 h
@[simp] theorem al66 : pAlloc P 66 w = some (pt (sz w) 0, nw w ([(Value.pointer none)]) 66) := by rw [pAlloc_eq hasZero66, zeroL66]
@[simp] theorem ld66 (h : i < (mm w b).length) : pLoad P 66 (pt b i) w = some (gt (mm w b) i, w) := pLoad_scal tyOk66 isAggB66 h
@[simp] theorem st66 (hv : v.oneCell' = true) (hf : fz w b = false) (hi : i < (mm w b).length) : pStore P 66 (pt b i) v w = some (wr w b ((mm w b).set i v)) := pStore_one tyOk66 cellsOf66 hv hf hi
@[simp] theorem eqn66 {lit : Bool} {q : Option Addr} : pBin P .eql 66 lit (.pointer q) (.pointer none) w = some (.bool q.isNone, w) := eqNil und66
@[simp] theorem nen66 {lit : Bool} {q : Option Addr} : pBin P .neq 66 lit (.pointer q) (.pointer none) w = some (.bool q.isSome, w) := neNil und66
@[simp] theorem al67 : pAlloc P 67 w = some (pt (sz w) 0, nw w ([(Value.slice none 0 0)]) 67) := by rw [pAlloc_eq hasZero67, zeroL67]
@[simp] theorem ld67 (h : i < (mm w b).length) : pLoad P 67 (pt b i) w = some (gt (mm w b) i, w) := pLoad_scal tyOk67 isAggB67 h
@[simp] theorem st67 (hv : v.oneCell' = true) (hf : fz w b = false) (hi : i < (mm w b).length) : pStore P 67 (pt b i) v w = some (wr w b ((mm w b).set i v)) := pStore_one tyOk67 cellsOf67 hv hf hi
@[simp] theorem ia67 (h0 : 0 ≤ j) (h1 : j < n) : pIndexAddr P 67 (sl b o n c) (.int k j) w = some (pt b (o + j.toNat * 1), w) := by
  have := pIndexAddr_slice (w := w) (b := b) (o := o) (c := c) (k := k) sliceE67 tyOk22 h0 h1; rwa [cellsOf22] at this
@[simp] theorem len67 {ty : TypeId} {a : Option Addr} : pBuiltin P .len #[67] ty [.slice a n c] w = some (i64 n, w) := len_slice sliceE67
@[simp] theorem slL67 (h0 : 0 ≤ x) (h1 : x ≤ (n : Int)) (hnc : n ≤ c) : pSlice P 67 (sl b o n c) (some (.int k x)) none none w = some (.slice (some ⟨b, if c = x.toNat then o else o + x.toNat * 1, none⟩) (n - x.toNat) (c - x.toNat), w) := by
  have := pSlice_slice (P := P) (t := 67) (w := w) (b := b) (o := o) (lo := (some (.int k x))) (hi := none) sliceE67 tyOk22 rfl rfl h0 h1 (by simp [bHi]; omega) hnc; simpa [bLo, bHi] using this
@[simp] theorem slH67 {k' : IntKind} {y : Int} (h0 : 0 ≤ y) (h1 : y ≤ (c : Int)) (hnc : n ≤ c) : pSlice P 67 (sl b o n c) none (some (.int k' y)) none w = some (.slice (some ⟨b, o, none⟩) (y.toNat) (c), w) := by
  have := pSlice_slice (P := P) (t := 67) (w := w) (b := b) (o := o) (lo := none) (hi := (some (.int k' y))) sliceE67 tyOk22 rfl rfl (Int.le_refl 0) h0 h1 hnc; simpa [bLo, bHi] using this
@[simp] theorem slB67 {k' : IntKind} {y : Int} (h0 : 0 ≤ x) (h1 : x ≤ y) (h2 : y ≤ (c : Int)) (hnc : n ≤ c) : pSlice P 67 (sl b o n c) (some (.int k x)) (some (.int k' y)) none w = some (.slice (some ⟨b, if c = x.toNat then o else o + x.toNat * 1, none⟩) (y.toNat - x.toNat) (c - x.toNat), w) := by
  have := pSlice_slice (P := P) (t := 67) (w := w) (b := b) (o := o) (lo := (some (.int k x))) (hi := (some (.int k' y))) sliceE67 tyOk22 rfl rfl h0 h1 h2 hnc; simpa [bLo, bHi] using this
@[simp] theorem slN67  (hnc : n ≤ c) : pSlice P 67 (sl b o n c) none none none w = some (.slice (some ⟨b, o, none⟩) (n) (c), w) := by
  have := pSlice_slice (P := P) (t := 67) (w := w) (b := b) (o := o) (lo := none) (hi := none) sliceE67 tyOk22 rfl rfl (Int.le_refl 0) (by simp [bLo, bHi]) (by simp [bHi]; omega) hnc; simpa [bLo, bHi] using this
@[simp] theorem bsl67 {ps : List (Nat × Value)} (hbig : n * 1 ≤ 2 ^ 24) (hp : ∀ p ∈ ps, p.2.cells.size = 1 ∧ p.1 < n) : pBuildSlice P 67 n ps w = some (sl (sz w) 0 n n,
    nw w (ps.foldl (fun l p => splice l (p.1 * 1) p.2.cells.toList) (List.replicate n ([(Value.slice none 0 0)])).flatten) 22) := by
  have := pBuildSlice_eq (w := w) sliceE67 hasZero22 tyOk22 cellsOf22 (by rw [zeroL22]; rfl) hbig hp; rwa [zeroL22] at this
@[simp] theorem al76 : pAlloc P 76 w = some (pt (sz w) 0, nw w ([(Value.slice none 0 0)]) 76) := by rw [pAlloc_eq hasZero76, zeroL76]
@[simp] theorem ld76 (h : i < (mm w b).length) : pLoad P 76 (pt b i) w = some (gt (mm w b) i, w) := pLoad_scal tyOk76 isAggB76 h
@[simp] theorem st76 (hv : v.oneCell' = true) (hf : fz w b = false) (hi : i < (mm w b).length) : pStore P 76 (pt b i) v w = some (wr w b ((mm w b).set i v)) := pStore_one tyOk76 cellsOf76 hv hf hi
@[simp] theorem ia76 (h0 : 0 ≤ j) (h1 : j < n) : pIndexAddr P 76 (sl b o n c) (.int k j) w = some (pt b (o + j.toNat * 64), w) := by
  have := pIndexAddr_slice (w := w) (b := b) (o := o) (c := c) (k := k) sliceE76 tyOk25 h0 h1; rwa [cellsOf25] at this
@[simp] theorem len76 {ty : TypeId} {a : Option Addr} : pBuiltin P .len #[76] ty [.slice a n c] w = some (i64 n, w) := len_slice sliceE76
@[simp] theorem slL76 (h0 : 0 ≤ x) (h1 : x ≤ (n : Int)) (hnc : n ≤ c) : pSlice P 76 (sl b o n c) (some (.int k x)) none none w = some (.slice (some ⟨b, if c = x.toNat then o else o + x.toNat * 64, none⟩) (n - x.toNat) (c - x.toNat), w) := by
  have := pSlice_slice (P := P) (t := 76) (w := w) (b := b) (o := o) (lo := (some (.int k x))) (hi := none) sliceE76 tyOk25 rfl rfl h0 h1 (by simp [bHi]; omega) hnc; simpa [bLo, bHi] using this
@[simp] theorem slH76 {k' : IntKind} {y : Int} (h0 : 0 ≤ y) (h1 : y ≤ (c : Int)) (hnc : n ≤ c) : pSlice P 76 (sl b o n c) none (some (.int k' y)) none w = some (.slice (some ⟨b, o, none⟩) (y.toNat) (c), w) := by
  have := pSlice_slice (P := P) (t := 76) (w := w) (b := b) (o := o) (lo := none) (hi := (some (.int k' y))) sliceE76 tyOk25 rfl rfl (Int.le_refl 0) h0 h1 hnc; simpa [bLo, bHi] using this
@[simp] theorem slB76 {k' : IntKind} {y : Int} (h0 : 0 ≤ x) (h1 : x ≤ y) (h2 : y ≤ (c : Int)) (hnc : n ≤ c) : pSlice P 76 (sl b o n c) (some (.int k x)) (some (.int k' y)) none w = some (.slice (some ⟨b, if c = x.toNat then o else o + x.toNat * 64, none⟩) (y.toNat - x.toNat) (c - x.toNat), w) := by
  have := pSlice_slice (P := P) (t := 76) (w := w) (b := b) (o := o) (lo := (some (.int k x))) (hi := (some (.int k' y))) sliceE76 tyOk25 rfl rfl h0 h1 h2 hnc; simpa [bLo, bHi] using this
@[simp] theorem slN76  (hnc : n ≤ c) : pSlice P 76 (sl b o n c) none none none w = some (.slice (some ⟨b, o, none⟩) (n) (c), w) := by
  have := pSlice_slice (P := P) (t := 76) (w := w) (b := b) (o := o) (lo := none) (hi := none) sliceE76 tyOk25 rfl rfl (Int.le_refl 0) (by simp [bLo, bHi]) (by simp [bHi]; omega) hnc; simpa [bLo, bHi] using this
@[simp] theorem bsl76 {ps : List (Nat × Value)} (hbig : n * 64 ≤ 2 ^ 24) (hp : ∀ p ∈ ps, p.2.cells.size = 64 ∧ p.1 < n) : pBuildSlice P 76 n ps w = some (sl (sz w) 0 n n,
    nw w (ps.foldl (fun l p => splice l (p.1 * 64) p.2.cells.toList) (List.replicate n (bs (zb 64))).flatten) 25) := by
  have := pBuildSlice_eq (w := w) sliceE76 hasZero25 tyOk25 cellsOf25 (by rw [zeroL25]; rfl) hbig hp; rwa [zeroL25] at this
@[simp] theorem al85 : pAlloc P 85 w = some (pt (sz w) 0, nw w ([(Value.slice none 0 0)]) 85) := by rw [pAlloc_eq hasZero85, zeroL85]
@[simp] theorem ld85 (h : i < (mm w b).length) : pLoad P 85 (pt b i) w = some (gt (mm w b) i, w) := pLoad_scal tyOk85 isAggB85 h
@[simp] theorem st85 (hv : v.oneCell' = true) (hf : fz w b = false) (hi : i < (mm w b).length) : pStore P 85 (pt b i) v w = some (wr w b ((mm w b).set i v)) := pStore_one tyOk85 cellsOf85 hv hf hi
@[simp] theorem ia85 (h0 : 0 ≤ j) (h1 : j < n) : pIndexAddr P 85 (sl b o n c) (.int k j) w = some (pt b (o + j.toNat * 6), w) := by
  have := pIndexAddr_slice (w := w) (b := b) (o := o) (c := c) (k := k) sliceE85 tyOk87 h0 h1; rwa [cellsOf87] at this
@[simp] theorem len85 {ty : TypeId} {a : Option Addr} : pBuiltin P .len #[85] ty [.slice a n c] w = some (i64 n, w) := len_slice sliceE85
@[simp] theorem slL85 (h0 : 0 ≤ x) (h1 : x ≤ (n : Int)) (hnc : n ≤ c) : pSlice P 85 (sl b o n c) (some (.int k x)) none none w = some (.slice (some ⟨b, if c = x.toNat then o else o + x.toNat * 6, none⟩) (n - x.toNat) (c - x.toNat), w) := by
  have := pSlice_slice (P := P) (t := 85) (w := w) (b := b) (o := o) (lo := (some (.int k x))) (hi := none) sliceE85 tyOk87 rfl rfl h0 h1 (by simp [bHi]; omega) hnc; simpa [bLo, bHi] using this
@[simp] theorem slH85 {k' : IntKind} {y : Int} (h0 : 0 ≤ y) (h1 : y ≤ (c : Int)) (hnc : n ≤ c) : pSlice P 85 (sl b o n c) none (some (.int k' y)) none w = some (.slice (some ⟨b, o, none⟩) (y.toNat) (c), w) := by
  have := pSlice_slice (P := P) (t := 85) (w := w) (b := b) (o := o) (lo := none) (hi := (some (.int k' y))) sliceE85 tyOk87 rfl rfl (Int.le_refl 0) h0 h1 hnc; simpa [bLo, bHi] using this
@[simp] theorem slB85 {k' : IntKind} {y : Int} (h0 : 0 ≤ x) (h1 : x ≤ y) (h2 : y ≤ (c : Int)) (hnc : n ≤ c) : pSlice P 85 (sl b o n c) (some (.int k x)) (some (.int k' y)) none w = some (.slice (some ⟨b, if c = x.toNat then o else o + x.toNat * 6, none⟩) (y.toNat - x.toNat) (c - x.toNat), w) := by
  have := pSlice_slice (P := P) (t := 85) (w := w) (b := b) (o := o) (lo := (some (.int k x))) (hi := (some (.int k' y))) sliceE85 tyOk87 rfl rfl h0 h1 h2 hnc; simpa [bLo, bHi] using this
@[simp] theorem slN85  (hnc : n ≤ c) : pSlice P 85 (sl b o n c) none none none w = some (.slice (some ⟨b, o, none⟩) (n) (c), w) := by
  have := pSlice_slice (P := P) (t := 85) (w := w) (b := b) (o := o) (lo := none) (hi := none) sliceE85 tyOk87 rfl rfl (Int.le_refl 0) (by simp [bLo, bHi]) (by simp [bHi]; omega) hnc; simpa [bLo, bHi] using this
@[simp] theorem bsl85 {ps : List (Nat × Value)} (hbig : n * 6 ≤ 2 ^ 24) (hp : ∀ p ∈ ps, p.2.cells.size = 6 ∧ p.1 < n) : pBuildSlice P 85 n ps w = some (sl (sz w) 0 n n,
    nw w (ps.foldl (fun l p => splice l (p.1 * 6) p.2.cells.toList) (List.replicate n ([(Value.int IntKind.i64 0), (Value.int IntKind.i64 0), (Value.int IntKind.i64 0), (Value.int IntKind.i64 0), (Value.int IntKind.i64 0), (Value.int IntKind.i64 0)])).flatten) 87) := by
  have := pBuildSlice_eq (w := w) sliceE85 hasZero87 tyOk87 cellsOf87 (by rw [zeroL87]; rfl) hbig hp; rwa [zeroL87] at this
@[simp] theorem al87 : pAlloc P 87 w = some (pt (sz w) 0, nw w ([(Value.int IntKind.i64 0), (Value.int IntKind.i64 0), (Value.int IntKind.i64 0), (Value.int IntKind.i64 0), (Value.int IntKind.i64 0), (Value.int IntKind.i64 0)]) 87) := by rw [pAlloc_eq hasZero87, zeroL87]
@[simp] theorem ld87 (h : i + 6 ≤ (mm w b).length) : pLoad P 87 (pt b i) w = some (.agg (((mm w b).drop i).take 6).toArray, w) := by
  have := pLoad_agg (w := w) (b := b) (i := i) tyOk87 isAggB87 (by rw [cellsOf87]; exact h); rwa [cellsOf87] at this
@[simp] theorem st87 (hs : a.size = 6) (hv : ∀ v ∈ a.toList, v.oneCell' = true) (hf : fz w b = false) (hi : i + 6 ≤ (mm w b).length) : pStore P 87 (pt b i) (.agg a) w = some (wr w b (splice (mm w b) i a.toList)) :=
  pStore_agg tyOk87 (by rw [cellsOf87, hs]) hv hf (by rw [hs]; exact hi)
@[simp] theorem bf87 {ps : List (Nat × Value)} (hp : ∀ p ∈ ps, p.1 < 6 ∧ p.2.oneCell' = true) : pBuild P 87 ps w = some (.agg (ps.foldl (fun l p => l.set p.1 p.2) ([(Value.int IntKind.i64 0), (Value.int IntKind.i64 0), (Value.int IntKind.i64 0), (Value.int IntKind.i64 0), (Value.int IntKind.i64 0), (Value.int IntKind.i64 0)])).toArray, w) := by
  have := pBuild_flat (w := w) (ps := ps) hasZero87 (by kernel_rfl) (by kernel_rfl) (by rw [zeroL87]; exact hp); rwa [zeroL87] at this
@[simp] theorem fa87n0 : pFieldAddr P 87 (pt b i) 0 w = some (pt b (i + 0), w) := pFieldAddr_eq field87n0 tyOk3 (by rw [cellsOf3]; rfl)
@[simp] theorem fi87n0 (h : 0 < a.size) : pField P 87 (.agg a) 0 w = some (gt a.toList 0, w) := pField_scal field87n0 tyOk3 isAggB3 h
@[simp] theorem fa87n1 : pFieldAddr P 87 (pt b i) 1 w = some (pt b (i + 1), w) := pFieldAddr_eq field87n1 tyOk3 (by rw [cellsOf3]; rfl)
@[simp] theorem fi87n1 (h : 1 < a.size) : pField P 87 (.agg a) 1 w = some (gt a.toList 1, w) := pField_scal field87n1 tyOk3 isAggB3 h
@[simp] theorem fa87n2 : pFieldAddr P 87 (pt b i) 2 w = some (pt b (i + 2), w) := pFieldAddr_eq field87n2 tyOk3 (by rw [cellsOf3]; rfl)
@[simp] theorem fi87n2 (h : 2 < a.size) : pField P 87 (.agg a) 2 w = some (gt a.toList 2, w) := pField_scal field87n2 tyOk3 isAggB3 h
@[simp] theorem fa87n3 : pFieldAddr P 87 (pt b i) 3 w = some (pt b (i + 3), w) := pFieldAddr_eq field87n3 tyOk3 (by rw [cellsOf3]; rfl)
@[simp] theorem fi87n3 (h : 3 < a.size) : pField P 87 (.agg a) 3 w = some (gt a.toList 3, w) := pField_scal field87n3 tyOk3 isAggB3 h
@[simp] theorem fa87n4 : pFieldAddr P 87 (pt b i) 4 w = some (pt b (i + 4), w) := pFieldAddr_eq field87n4 tyOk3 (by rw [cellsOf3]; rfl)
@[simp] theorem fi87n4 (h : 4 < a.size) : pField P 87 (.agg a) 4 w = some (gt a.toList 4, w) := pField_scal field87n4 tyOk3 isAggB3 h
@[simp] theorem fa87n5 : pFieldAddr P 87 (pt b i) 5 w = some (pt b (i + 5), w) := pFieldAddr_eq field87n5 tyOk3 (by rw [cellsOf3]; rfl)
@[simp] theorem fi87n5 (h : 5 < a.size) : pField P 87 (.agg a) 5 w = some (gt a.toList 5, w) := pField_scal field87n5 tyOk3 isAggB3 h
@[simp] theorem al92 : pAlloc P 92 w = some (pt (sz w) 0, nw w ([(Value.int IntKind.i64 0), (Value.int IntKind.i64 0), (Value.int IntKind.i64 0), (Value.int IntKind.i64 0), (Value.int IntKind.i64 0), (Value.int IntKind.i64 0)]) 92) := by rw [pAlloc_eq hasZero92, zeroL92]
@[simp] theorem ld92 (h : i + 6 ≤ (mm w b).length) : pLoad P 92 (pt b i) w = some (.agg (((mm w b).drop i).take 6).toArray, w) := by
  have := pLoad_agg (w := w) (b := b) (i := i) tyOk92 isAggB92 (by rw [cellsOf92]; exact h); rwa [cellsOf92] at this
@[simp] theorem st92 (hs : a.size = 6) (hv : ∀ v ∈ a.toList, v.oneCell' = true) (hf : fz w b = false) (hi : i + 6 ≤ (mm w b).length) : pStore P 92 (pt b i) (.agg a) w = some (wr w b (splice (mm w b) i a.toList)) :=
  pStore_agg tyOk92 (by rw [cellsOf92, hs]) hv hf (by rw [hs]; exact hi)
@[simp] theorem ia92 (h0 : 0 ≤ j) (h1 : j < 6) : pIndexAddr P 92 (pt b o) (.int k j) w = some (pt b (o + j.toNat * 1), w) := by
  have := pIndexAddr_arr (w := w) (b := b) (o := o) (k := k) arrE92 tyOk3 h0 h1; rwa [cellsOf3] at this
@[simp] theorem slL92 (h0 : 0 ≤ x) (h1 : x ≤ (6 : Int))  : pSlice P 92 (pt b o) (some (.int k x)) none none w = some (.slice (some ⟨b, if 6 = x.toNat then o else o + x.toNat * 1, none⟩) (6 - x.toNat) (6 - x.toNat), w) := by
  have := pSlice_arr (P := P) (t := 92) (w := w) (b := b) (o := o) (lo := (some (.int k x))) (hi := none) arrE92 tyOk3 rfl rfl h0 h1 (by simp [bHi]) ; simpa [bLo, bHi] using this
@[simp] theorem slH92 {k' : IntKind} {y : Int} (h0 : 0 ≤ y) (h1 : y ≤ (6 : Int))  : pSlice P 92 (pt b o) none (some (.int k' y)) none w = some (.slice (some ⟨b, o, none⟩) (y.toNat) (6), w) := by
  have := pSlice_arr (P := P) (t := 92) (w := w) (b := b) (o := o) (lo := none) (hi := (some (.int k' y))) arrE92 tyOk3 rfl rfl (Int.le_refl 0) h0 h1 ; simpa [bLo, bHi] using this
@[simp] theorem slB92 {k' : IntKind} {y : Int} (h0 : 0 ≤ x) (h1 : x ≤ y) (h2 : y ≤ (6 : Int))  : pSlice P 92 (pt b o) (some (.int k x)) (some (.int k' y)) none w = some (.slice (some ⟨b, if 6 = x.toNat then o else o + x.toNat * 1, none⟩) (y.toNat - x.toNat) (6 - x.toNat), w) := by
  have := pSlice_arr (P := P) (t := 92) (w := w) (b := b) (o := o) (lo := (some (.int k x))) (hi := (some (.int k' y))) arrE92 tyOk3 rfl rfl h0 h1 h2 ; simpa [bLo, bHi] using this
@[simp] theorem slN92   : pSlice P 92 (pt b o) none none none w = some (.slice (some ⟨b, o, none⟩) (6) (6), w) := by
  have := pSlice_arr (P := P) (t := 92) (w := w) (b := b) (o := o) (lo := none) (hi := none) arrE92 tyOk3 rfl rfl (Int.le_refl 0) (by simp [bLo, bHi]) (by simp [bHi]) ; simpa [bLo, bHi] using this
@[simp] theorem ix92 (h0 : 0 ≤ j) (h1 : j < 6) (hs : a.size = 6) : pIndex P 92 (.agg a) (.int k j) w = some (gt a.toList j.toNat, w) := by
  have := pIndex_arr_scal (w := w) (k := k) (x := a) arrE92 tyOk3 isAggB3 h0 h1 (by rw [cellsOf3, hs]; omega); simpa using this
@[simp] theorem bd92 {ps : List (Nat × Value)} (hp : ∀ p ∈ ps, p.1 < 6 ∧ p.2.oneCell' = true) : pBuild P 92 ps w = some (.agg (ps.foldl (fun l p => l.set p.1 p.2) ([(Value.int IntKind.i64 0), (Value.int IntKind.i64 0), (Value.int IntKind.i64 0), (Value.int IntKind.i64 0), (Value.int IntKind.i64 0), (Value.int IntKind.i64 0)])).toArray, w) := by
  have := pBuild_arr (w := w) hasZero92 arrE92 tyOk3 cellsOf3 (n := 6) (by rw [zeroL92]; rfl) hp; rwa [zeroL92] at this
@[simp] theorem al93 : pAlloc P 93 w = some (pt (sz w) 0, nw w ([(Value.int IntKind.i64 0), (Value.int IntKind.i64 0), (Value.int IntKind.i64 0), (Value.int IntKind.i64 0), (Value.int IntKind.i64 0), (Value.int IntKind.i64 0)]) 93) := by rw [pAlloc_eq hasZero93, zeroL93]
@[simp] theorem ld93 (h : i + 6 ≤ (mm w b).length) : pLoad P 93 (pt b i) w = some (.agg (((mm w b).drop i).take 6).toArray, w) := by
  have := pLoad_agg (w := w) (b := b) (i := i) tyOk93 isAggB93 (by rw [cellsOf93]; exact h); rwa [cellsOf93] at this
@[simp] theorem st93 (hs : a.size = 6) (hv : ∀ v ∈ a.toList, v.oneCell' = true) (hf : fz w b = false) (hi : i + 6 ≤ (mm w b).length) : pStore P 93 (pt b i) (.agg a) w = some (wr w b (splice (mm w b) i a.toList)) :=
  pStore_agg tyOk93 (by rw [cellsOf93, hs]) hv hf (by rw [hs]; exact hi)
@[simp] theorem ia93 (h0 : 0 ≤ j) (h1 : j < 6) : pIndexAddr P 93 (pt b o) (.int k j) w = some (pt b (o + j.toNat * 1), w) := by
  have := pIndexAddr_arr (w := w) (b := b) (o := o) (k := k) arrE93 tyOk3 h0 h1; rwa [cellsOf3] at this
@[simp] theorem slL93 (h0 : 0 ≤ x) (h1 : x ≤ (6 : Int))  : pSlice P 93 (pt b o) (some (.int k x)) none none w = some (.slice (some ⟨b, if 6 = x.toNat then o else o + x.toNat * 1, none⟩) (6 - x.toNat) (6 - x.toNat), w) := by
  have := pSlice_arr (P := P) (t := 93) (w := w) (b := b) (o := o) (lo := (some (.int k x))) (hi := none) arrE93 tyOk3 rfl rfl h0 h1 (by simp [bHi]) ; simpa [bLo, bHi] using this
@[simp] theorem slH93 {k' : IntKind} {y : Int} (h0 : 0 ≤ y) (h1 : y ≤ (6 : Int))  : pSlice P 93 (pt b o) none (some (.int k' y)) none w = some (.slice (some ⟨b, o, none⟩) (y.toNat) (6), w) := by
  have := pSlice_arr (P := P) (t := 93) (w := w) (b := b) (o := o) (lo := none) (hi := (some (.int k' y))) arrE93 tyOk3 rfl rfl (Int.le_refl 0) h0 h1 ; simpa [bLo, bHi] using this
@[simp] theorem slB93 {k' : IntKind} {y : Int} (h0 : 0 ≤ x) (h1 : x ≤ y) (h2 : y ≤ (6 : Int))  : pSlice P 93 (pt b o) (some (.int k x)) (some (.int k' y)) none w = some (.slice (some ⟨b, if 6 = x.toNat then o else o + x.toNat * 1, none⟩) (y.toNat - x.toNat) (6 - x.toNat), w) := by
  have := pSlice_arr (P := P) (t := 93) (w := w) (b := b) (o := o) (lo := (some (.int k x))) (hi := (some (.int k' y))) arrE93 tyOk3 rfl rfl h0 h1 h2 ; simpa [bLo, bHi] using this
@[simp] theorem slN93   : pSlice P 93 (pt b o) none none none w = some (.slice (some ⟨b, o, none⟩) (6) (6), w) := by
  have := pSlice_arr (P := P) (t := 93) (w := w) (b := b) (o := o) (lo := none) (hi := none) arrE93 tyOk3 rfl rfl (Int.le_refl 0) (by simp [bLo, bHi]) (by simp [bHi]) ; simpa [bLo, bHi] using this
@[simp] theorem ix93 (h0 : 0 ≤ j) (h1 : j < 6) (hs : a.size = 6) : pIndex P 93 (.agg a) (.int k j) w = some (gt a.toList j.toNat, w) := by
  have := pIndex_arr_scal (w := w) (k := k) (x := a) arrE93 tyOk3 isAggB3 h0 h1 (by rw [cellsOf3, hs]; omega); simpa using this
@[simp] theorem bd93 {ps : List (Nat × Value)} (hp : ∀ p ∈ ps, p.1 < 6 ∧ p.2.oneCell' = true) : pBuild P 93 ps w = some (.agg (ps.foldl (fun l p => l.set p.1 p.2) ([(Value.int IntKind.i64 0), (Value.int IntKind.i64 0), (Value.int IntKind.i64 0), (Value.int IntKind.i64 0), (Value.int IntKind.i64 0), (Value.int IntKind.i64 0)])).toArray, w) := by
  have := pBuild_arr (w := w) hasZero93 arrE93 tyOk3 cellsOf3 (n := 6) (by rw [zeroL93]; rfl) hp; rwa [zeroL93] at this
@[simp] theorem al98 : pAlloc P 98 w = some (pt (sz w) 0, nw w (bs (zb 128)) 98) := by rw [pAlloc_eq hasZero98, zeroL98]
@[simp] theorem ld98 (h : i + 128 ≤ (mm w b).length) : pLoad P 98 (pt b i) w = some (.agg (((mm w b).drop i).take 128).toArray, w) := by
  have := pLoad_agg (w := w) (b := b) (i := i) tyOk98 isAggB98 (by rw [cellsOf98]; exact h); rwa [cellsOf98] at this
@[simp] theorem st98 (hs : a.size = 128) (hv : ∀ v ∈ a.toList, v.oneCell' = true) (hf : fz w b = false) (hi : i + 128 ≤ (mm w b).length) : pStore P 98 (pt b i) (.agg a) w = some (wr w b (splice (mm w b) i a.toList)) :=
  pStore_agg tyOk98 (by rw [cellsOf98, hs]) hv hf (by rw [hs]; exact hi)
@[simp] theorem ia98 (h0 : 0 ≤ j) (h1 : j < 2) : pIndexAddr P 98 (pt b o) (.int k j) w = some (pt b (o + j.toNat * 64), w) := by
  have := pIndexAddr_arr (w := w) (b := b) (o := o) (k := k) arrE98 tyOk25 h0 h1; rwa [cellsOf25] at this
@[simp] theorem slL98 (h0 : 0 ≤ x) (h1 : x ≤ (2 : Int))  : pSlice P 98 (pt b o) (some (.int k x)) none none w = some (.slice (some ⟨b, if 2 = x.toNat then o else o + x.toNat * 64, none⟩) (2 - x.toNat) (2 - x.toNat), w) := by
  have := pSlice_arr (P := P) (t := 98) (w := w) (b := b) (o := o) (lo := (some (.int k x))) (hi := none) arrE98 tyOk25 rfl rfl h0 h1 (by simp [bHi]) ; simpa [bLo, bHi] using this
@[simp] theorem slH98 {k' : IntKind} {y : Int} (h0 : 0 ≤ y) (h1 : y ≤ (2 : Int))  : pSlice P 98 (pt b o) none (some (.int k' y)) none w = some (.slice (some ⟨b, o, none⟩) (y.toNat) (2), w) := by
  have := pSlice_arr (P := P) (t := 98) (w := w) (b := b) (o := o) (lo := none) (hi := (some (.int k' y))) arrE98 tyOk25 rfl rfl (Int.le_refl 0) h0 h1 ; simpa [bLo, bHi] using this
@[simp] theorem slB98 {k' : IntKind} {y : Int} (h0 : 0 ≤ x) (h1 : x ≤ y) (h2 : y ≤ (2 : Int))  : pSlice P 98 (pt b o) (some (.int k x)) (some (.int k' y)) none w = some (.slice (some ⟨b, if 2 = x.toNat then o else o + x.toNat * 64, none⟩) (y.toNat - x.toNat) (2 - x.toNat), w) := by
  have := pSlice_arr (P := P) (t := 98) (w := w) (b := b) (o := o) (lo := (some (.int k x))) (hi := (some (.int k' y))) arrE98 tyOk25 rfl rfl h0 h1 h2 ; simpa [bLo, bHi] using this
@[simp] theorem slN98   : pSlice P 98 (pt b o) none none none w = some (.slice (some ⟨b, o, none⟩) (2) (2), w) := by
  have := pSlice_arr (P := P) (t := 98) (w := w) (b := b) (o := o) (lo := none) (hi := none) arrE98 tyOk25 rfl rfl (Int.le_refl 0) (by simp [bLo, bHi]) (by simp [bHi]) ; simpa [bLo, bHi] using this
@[simp] theorem al104 : pAlloc P 104 w = some (pt (sz w) 0, nw w ([(Value.int IntKind.i64 0), (Value.int IntKind.i64 0), (Value.int IntKind.i64 0), (Value.int IntKind.i64 0), (Value.int IntKind.i64 0), (Value.int IntKind.i64 0), (Value.int IntKind.i64 0), (Value.int IntKind.i64 0), (Value.int IntKind.i64 0), (Value.int IntKind.i64 0), (Value.int IntKind.i64 0), (Value.int IntKind.i64 0)]) 104) := by rw [pAlloc_eq hasZero104, zeroL104]
@[simp] theorem ld104 (h : i + 12 ≤ (mm w b).length) : pLoad P 104 (pt b i) w = some (.agg (((mm w b).drop i).take 12).toArray, w) := by
  have := pLoad_agg (w := w) (b := b) (i := i) tyOk104 isAggB104 (by rw [cellsOf104]; exact h); rwa [cellsOf104] at this
@[simp] theorem st104 (hs : a.size = 12) (hv : ∀ v ∈ a.toList, v.oneCell' = true) (hf : fz w b = false) (hi : i + 12 ≤ (mm w b).length) : pStore P 104 (pt b i) (.agg a) w = some (wr w b (splice (mm w b) i a.toList)) :=
  pStore_agg tyOk104 (by rw [cellsOf104, hs]) hv hf (by rw [hs]; exact hi)
@[simp] theorem ia104 (h0 : 0 ≤ j) (h1 : j < 2) : pIndexAddr P 104 (pt b o) (.int k j) w = some (pt b (o + j.toNat * 6), w) := by
  have := pIndexAddr_arr (w := w) (b := b) (o := o) (k := k) arrE104 tyOk87 h0 h1; rwa [cellsOf87] at this
@[simp] theorem slL104 (h0 : 0 ≤ x) (h1 : x ≤ (2 : Int))  : pSlice P 104 (pt b o) (some (.int k x)) none none w = some (.slice (some ⟨b, if 2 = x.toNat then o else o + x.toNat * 6, none⟩) (2 - x.toNat) (2 - x.toNat), w) := by
  have := pSlice_arr (P := P) (t := 104) (w := w) (b := b) (o := o) (lo := (some (.int k x))) (hi := none) arrE104 tyOk87 rfl rfl h0 h1 (by simp [bHi]) ; simpa [bLo, bHi] using this
@[simp] theorem slH104 {k' : IntKind} {y : Int} (h0 : 0 ≤ y) (h1 : y ≤ (2 : Int))  : pSlice P 104 (pt b o) none (some (.int k' y)) none w = some (.slice (some ⟨b, o, none⟩) (y.toNat) (2), w) := by
  have := pSlice_arr (P := P) (t := 104) (w := w) (b := b) (o := o) (lo := none) (hi := (some (.int k' y))) arrE104 tyOk87 rfl rfl (Int.le_refl 0) h0 h1 ; simpa [bLo, bHi] using this
@[simp] theorem slB104 {k' : IntKind} {y : Int} (h0 : 0 ≤ x) (h1 : x ≤ y) (h2 : y ≤ (2 : Int))  : pSlice P 104 (pt b o) (some (.int k x)) (some (.int k' y)) none w = some (.slice (some ⟨b, if 2 = x.toNat then o else o + x.toNat * 6, none⟩) (y.toNat - x.toNat) (2 - x.toNat), w) := by
  have := pSlice_arr (P := P) (t := 104) (w := w) (b := b) (o := o) (lo := (some (.int k x))) (hi := (some (.int k' y))) arrE104 tyOk87 rfl rfl h0 h1 h2 ; simpa [bLo, bHi] using this
@[simp] theorem slN104   : pSlice P 104 (pt b o) none none none w = some (.slice (some ⟨b, o, none⟩) (2) (2), w) := by
  have := pSlice_arr (P := P) (t := 104) (w := w) (b := b) (o := o) (lo := none) (hi := none) arrE104 tyOk87 rfl rfl (Int.le_refl 0) (by simp [bLo, bHi]) (by simp [bHi]) ; simpa [bLo, bHi] using this
@[simp] theorem al106 : pAlloc P 106 w = some (pt (sz w) 0, nw w ([(Value.slice none 0 0)]) 106) := by rw [pAlloc_eq hasZero106, zeroL106]
@[simp] theorem ld106 (h : i < (mm w b).length) : pLoad P 106 (pt b i) w = some (gt (mm w b) i, w) := pLoad_scal tyOk106 isAggB106 h
@[simp] theorem st106 (hv : v.oneCell' = true) (hf : fz w b = false) (hi : i < (mm w b).length) : pStore P 106 (pt b i) v w = some (wr w b ((mm w b).set i v)) := pStore_one tyOk106 cellsOf106 hv hf hi
@[simp] theorem ia106 (h0 : 0 ≤ j) (h1 : j < n) : pIndexAddr P 106 (sl b o n c) (.int k j) w = some (pt b (o + j.toNat * 65), w) := by
  have := pIndexAddr_slice (w := w) (b := b) (o := o) (c := c) (k := k) sliceE106 tyOk111 h0 h1; rwa [cellsOf111] at this
@[simp] theorem len106 {ty : TypeId} {a : Option Addr} : pBuiltin P .len #[106] ty [.slice a n c] w = some (i64 n, w) := len_slice sliceE106
@[simp] theorem slL106 (h0 : 0 ≤ x) (h1 : x ≤ (n : Int)) (hnc : n ≤ c) : pSlice P 106 (sl b o n c) (some (.int k x)) none none w = some (.slice (some ⟨b, if c = x.toNat then o else o + x.toNat * 65, none⟩) (n - x.toNat) (c - x.toNat), w) := by
  have := pSlice_slice (P := P) (t := 106) (w := w) (b := b) (o := o) (lo := (some (.int k x))) (hi := none) sliceE106 tyOk111 rfl rfl h0 h1 (by simp [bHi]; omega) hnc; simpa [bLo, bHi] using this
@[simp] theorem slH106 {k' : IntKind} {y : Int} (h0 : 0 ≤ y) (h1 : y ≤ (c : Int)) (hnc : n ≤ c) : pSlice P 106 (sl b o n c) none (some (.int k' y)) none w = some (.slice (some ⟨b, o, none⟩) (y.toNat) (c), w) := by
  have := pSlice_slice (P := P) (t := 106) (w := w) (b := b) (o := o) (lo := none) (hi := (some (.int k' y))) sliceE106 tyOk111 rfl rfl (Int.le_refl 0) h0 h1 hnc; simpa [bLo, bHi] using this
@[simp] theorem slB106 {k' : IntKind} {y : Int} (h0 : 0 ≤ x) (h1 : x ≤ y) (h2 : y ≤ (c : Int)) (hnc : n ≤ c) : pSlice P 106 (sl b o n c) (some (.int k x)) (some (.int k' y)) none w = some (.slice (some ⟨b, if c = x.toNat then o else o + x.toNat * 65, none⟩) (y.toNat - x.toNat) (c - x.toNat), w) := by
  have := pSlice_slice (P := P) (t := 106) (w := w) (b := b) (o := o) (lo := (some (.int k x))) (hi := (some (.int k' y))) sliceE106 tyOk111 rfl rfl h0 h1 h2 hnc; simpa [bLo, bHi] using this
@[simp] theorem slN106  (hnc : n ≤ c) : pSlice P 106 (sl b o n c) none none none w = some (.slice (some ⟨b, o, none⟩) (n) (c), w) := by
  have := pSlice_slice (P := P) (t := 106) (w := w) (b := b) (o := o) (lo := none) (hi := none) sliceE106 tyOk111 rfl rfl (Int.le_refl 0) (by simp [bLo, bHi]) (by simp [bHi]; omega) hnc; simpa [bLo, bHi] using this
@[simp] theorem bsl106 {ps : List (Nat × Value)} (hbig : n * 65 ≤ 2 ^ 24) (hp : ∀ p ∈ ps, p.2.cells.size = 65 ∧ p.1 < n) : pBuildSlice P 106 n ps w = some (sl (sz w) 0 n n,
    nw w (ps.foldl (fun l p => splice l (p.1 * 65) p.2.cells.toList) (List.replicate n ((Value.int IntKind.i64 0) :: bs (zb 64))).flatten) 111) := by
  have := pBuildSlice_eq (w := w) sliceE106 hasZero111 tyOk111 cellsOf111 (by rw [zeroL111]; rfl) hbig hp; rwa [zeroL111] at this
@[simp] theorem al108 : pAlloc P 108 w = some (pt (sz w) 0, nw w ([(Value.slice none 0 0), (Value.slice none 0 0), (Value.int IntKind.i64 0), (Value.bool false), (Value.int IntKind.i64 0)]) 108) := by rw [pAlloc_eq hasZero108, zeroL108]
@[simp] theorem ld108 (h : i + 5 ≤ (mm w b).length) : pLoad P 108 (pt b i) w = some (.agg (((mm w b).drop i).take 5).toArray, w) := by
  have := pLoad_agg (w := w) (b := b) (i := i) tyOk108 isAggB108 (by rw [cellsOf108]; exact h); rwa [cellsOf108] at this
@[simp] theorem st108 (hs : a.size = 5) (hv : ∀ v ∈ a.toList, v.oneCell' = true) (hf : fz w b = false) (hi : i + 5 ≤ (mm w b).length) : pStore P 108 (pt b i) (.agg a) w = some (wr w b (splice (mm w b) i a.toList)) :=
  pStore_agg tyOk108 (by rw [cellsOf108, hs]) hv hf (by rw [hs]; exact hi)
@[simp] theorem bf108 {ps : List (Nat × Value)} (hp : ∀ p ∈ ps, p.1 < 5 ∧ p.2.oneCell' = true) : pBuild P 108 ps w = some (.agg (ps.foldl (fun l p => l.set p.1 p.2) ([(Value.slice none 0 0), (Value.slice none 0 0), (Value.int IntKind.i64 0), (Value.bool false), (Value.int IntKind.i64 0)])).toArray, w) := by
  have := pBuild_flat (w := w) (ps := ps) hasZero108 (by kernel_rfl) (by kernel_rfl) (by rw [zeroL108]; exact hp); rwa [zeroL108] at this
@[simp] theorem fa108n0 : pFieldAddr P 108 (pt b i) 0 w = some (pt b (i + 0), w) := pFieldAddr_eq field108n0 tyOk76 (by rw [cellsOf76]; rfl)
@[simp] theorem fi108n0 (h : 0 < a.size) : pField P 108 (.agg a) 0 w = some (gt a.toList 0, w) := pField_scal field108n0 tyOk76 isAggB76 h
@[simp] theorem fa108n1 : pFieldAddr P 108 (pt b i) 1 w = some (pt b (i + 1), w) := pFieldAddr_eq field108n1 tyOk106 (by rw [cellsOf106]; rfl)
@[simp] theorem fi108n1 (h : 1 < a.size) : pField P 108 (.agg a) 1 w = some (gt a.toList 1, w) := pField_scal field108n1 tyOk106 isAggB106 h
@[simp] theorem fa108n2 : pFieldAddr P 108 (pt b i) 2 w = some (pt b (i + 2), w) := pFieldAddr_eq field108n2 tyOk3 (by rw [cellsOf3]; rfl)
@[simp] theorem fi108n2 (h : 2 < a.size) : pField P 108 (.agg a) 2 w = some (gt a.toList 2, w) := pField_scal field108n2 tyOk3 isAggB3 h
@[simp] theorem fa108n3 : pFieldAddr P 108 (pt b i) 3 w = some (pt b (i + 3), w) := pFieldAddr_eq field108n3 tyOk4 (by rw [cellsOf4]; rfl)
@[simp] theorem fi108n3 (h : 3 < a.size) : pField P 108 (.agg a) 3 w = some (gt a.toList 3, w) := pField_scal field108n3 tyOk4 isAggB4 h
@[simp] theorem fa108n4 : pFieldAddr P 108 (pt b i) 4 w = some (pt b (i + 4), w) := pFieldAddr_eq field108n4 tyOk3 (by rw [cellsOf3]; rfl)
@[simp] theorem fi108n4 (h : 4 < a.size) : pField P 108 (.agg a) 4 w = some (gt a.toList 4, w) := pField_scal field108n4 tyOk3 isAggB3 h
@[simp] theorem al111 : pAlloc P 111 w = some (pt (sz w) 0, nw w ((Value.int IntKind.i64 0) :: bs (zb 64)) 111) := by rw [pAlloc_eq hasZero111, zeroL111]
@[simp] theorem ld111 (h : i + 65 ≤ (mm w b).length) : pLoad P 111 (pt b i) w = some (.agg (((mm w b).drop i).take 65).toArray, w) := by
  have := pLoad_agg (w := w) (b := b) (i := i) tyOk111 isAggB111 (by rw [cellsOf111]; exact h); rwa [cellsOf111] at this
@[simp] theorem st111 (hs : a.size = 65) (hv : ∀ v ∈ a.toList, v.oneCell' = true) (hf : fz w b = false) (hi : i + 65 ≤ (mm w b).length) : pStore P 111 (pt b i) (.agg a) w = some (wr w b (splice (mm w b) i a.toList)) :=
  pStore_agg tyOk111 (by rw [cellsOf111, hs]) hv hf (by rw [hs]; exact hi)
@[simp] theorem fa111n0 : pFieldAddr P 111 (pt b i) 0 w = some (pt b (i + 0), w) := pFieldAddr_eq field111n0 tyOk3 (by rw [cellsOf3]; rfl)
@[simp] theorem fi111n0 (h : 0 < a.size) : pField P 111 (.agg a) 0 w = some (gt a.toList 0, w) := pField_scal field111n0 tyOk3 isAggB3 h
@[simp] theorem fa111n1 : pFieldAddr P 111 (pt b i) 1 w = some (pt b (i + 1), w) := pFieldAddr_eq field111n1 tyOk25 (by rw [cellsOf25]; rfl)
@[simp] theorem fi111n1 : pField P 111 (.agg a) 1 w = some (.agg ((a.toList.drop 1).take 64).toArray, w) := by
  have := pField_agg (w := w) (x := a) field111n1 tyOk25 isAggB25; rwa [cellsOf25] at this
@[simp] theorem al113 : pAlloc P 113 w = some (pt (sz w) 0, nw w ([(Value.slice none 0 0), (Value.slice none 0 0), (Value.slice none 0 0), (Value.slice none 0 0), (Value.int IntKind.i64 0), (Value.bool false), (Value.int IntKind.i64 0)]) 113) := by rw [pAlloc_eq hasZero113, zeroL113]
@[simp] theorem ld113 (h : i + 7 ≤ (mm w b).length) : pLoad P 113 (pt b i) w = some (.agg (((mm w b).drop i).take 7).toArray, w) := by
  have := pLoad_agg (w := w) (b := b) (i := i) tyOk113 isAggB113 (by rw [cellsOf113]; exact h); rwa [cellsOf113] at this
@[simp] theorem st113 (hs : a.size = 7) (hv : ∀ v ∈ a.toList, v.oneCell' = true) (hf : fz w b = false) (hi : i + 7 ≤ (mm w b).length) : pStore P 113 (pt b i) (.agg a) w = some (wr w b (splice (mm w b) i a.toList)) :=
  pStore_agg tyOk113 (by rw [cellsOf113, hs]) hv hf (by rw [hs]; exact hi)
@[simp] theorem bf113 {ps : List (Nat × Value)} (hp : ∀ p ∈ ps, p.1 < 7 ∧ p.2.oneCell' = true) : pBuild P 113 ps w = some (.agg (ps.foldl (fun l p => l.set p.1 p.2) ([(Value.slice none 0 0), (Value.slice none 0 0), (Value.slice none 0 0), (Value.slice none 0 0), (Value.int IntKind.i64 0), (Value.bool false), (Value.int IntKind.i64 0)])).toArray, w) := by
  have := pBuild_flat (w := w) (ps := ps) hasZero113 (by kernel_rfl) (by kernel_rfl) (by rw [zeroL113]; exact hp); rwa [zeroL113] at this
@[simp] theorem fa113n0 : pFieldAddr P 113 (pt b i) 0 w = some (pt b (i + 0), w) := pFieldAddr_eq field113n0 tyOk76 (by rw [cellsOf76]; rfl)
@[simp] theorem fi113n0 (h : 0 < a.size) : pField P 113 (.agg a) 0 w = some (gt a.toList 0, w) := pField_scal field113n0 tyOk76 isAggB76 h
@[simp] theorem fa113n1 : pFieldAddr P 113 (pt b i) 1 w = some (pt b (i + 1), w) := pFieldAddr_eq field113n1 tyOk76 (by rw [cellsOf76]; rfl)
@[simp] theorem fi113n1 (h : 1 < a.size) : pField P 113 (.agg a) 1 w = some (gt a.toList 1, w) := pField_scal field113n1 tyOk76 isAggB76 h
@[simp] theorem fa113n2 : pFieldAddr P 113 (pt b i) 2 w = some (pt b (i + 2), w) := pFieldAddr_eq field113n2 tyOk43 (by rw [cellsOf43]; rfl)
@[simp] theorem fi113n2 (h : 2 < a.size) : pField P 113 (.agg a) 2 w = some (gt a.toList 2, w) := pField_scal field113n2 tyOk43 isAggB43 h
@[simp] theorem fa113n3 : pFieldAddr P 113 (pt b i) 3 w = some (pt b (i + 3), w) := pFieldAddr_eq field113n3 tyOk76 (by rw [cellsOf76]; rfl)
@[simp] theorem fi113n3 (h : 3 < a.size) : pField P 113 (.agg a) 3 w = some (gt a.toList 3, w) := pField_scal field113n3 tyOk76 isAggB76 h
@[simp] theorem fa113n4 : pFieldAddr P 113 (pt b i) 4 w = some (pt b (i + 4), w) := pFieldAddr_eq field113n4 tyOk3 (by rw [cellsOf3]; rfl)
@[simp] theorem fi113n4 (h : 4 < a.size) : pField P 113 (.agg a) 4 w = some (gt a.toList 4, w) := pField_scal field113n4 tyOk3 isAggB3 h
@[simp] theorem fa113n5 : pFieldAddr P 113 (pt b i) 5 w = some (pt b (i + 5), w) := pFieldAddr_eq field113n5 tyOk4 (by rw [cellsOf4]; rfl)
@[simp] theorem fi113n5 (h : 5 < a.size) : pField P 113 (.agg a) 5 w = some (gt a.toList 5, w) := pField_scal field113n5 tyOk4 isAggB4 h
@[simp] theorem fa113n6 : pFieldAddr P 113 (pt b i) 6 w = some (pt b (i + 6), w) := pFieldAddr_eq field113n6 tyOk3 (by rw [cellsOf3]; rfl)
@[simp] theorem fi113n6 (h : 6 < a.size) : pField P 113 (.agg a) 6 w = some (gt a.toList 6, w) := pField_scal field113n6 tyOk3 isAggB3 h
@[simp] theorem al119 : pAlloc P 119 w = some (pt (sz w) 0, nw w ([(Value.pointer none), (Value.int IntKind.i64 0), (Value.int IntKind.i64 0), (Value.int IntKind.i64 0)]) 119) := by rw [pAlloc_eq hasZero119, zeroL119]
@[simp] theorem ld119 (h : i + 4 ≤ (mm w b).length) : pLoad P 119 (pt b i) w = some (.agg (((mm w b).drop i).take 4).toArray, w) := by
  have := pLoad_agg (w := w) (b := b) (i := i) tyOk119 isAggB119 (by rw [cellsOf119]; exact h); rwa [cellsOf119] at this
@[simp] theorem st119 (hs : a.size = 4) (hv : ∀ v ∈ a.toList, v.oneCell' = true) (hf : fz w b = false) (hi : i + 4 ≤ (mm w b).length) : pStore P 119 (pt b i) (.agg a) w = some (wr w b (splice (mm w b) i a.toList)) :=
  pStore_agg tyOk119 (by rw [cellsOf119, hs]) hv hf (by rw [hs]; exact hi)
@[simp] theorem fa119n0 : pFieldAddr P 119 (pt b i) 0 w = some (pt b (i + 0), w) := pFieldAddr_eq field119n0 tyOk34 (by rw [cellsOf34]; rfl)
@[simp] theorem fi119n0 (h : 0 < a.size) : pField P 119 (.agg a) 0 w = some (gt a.toList 0, w) := pField_scal field119n0 tyOk34 isAggB34 h
@[simp] theorem fa119n1 : pFieldAddr P 119 (pt b i) 1 w = some (pt b (i + 1), w) := pFieldAddr_eq field119n1 tyOk65 (by rw [cellsOf65]; rfl)
@[simp] theorem fi119n1 : pField P 119 (.agg a) 1 w = some (.agg ((a.toList.drop 1).take 2).toArray, w) := by
  have := pField_agg (w := w) (x := a) field119n1 tyOk65 isAggB65; rwa [cellsOf65] at this
@[simp] theorem fa119n2 : pFieldAddr P 119 (pt b i) 2 w = some (pt b (i + 3), w) := pFieldAddr_eq field119n2 tyOk3 (by rw [cellsOf3]; rfl)
@[simp] theorem fi119n2 (h : 3 < a.size) : pField P 119 (.agg a) 2 w = some (gt a.toList 3, w) := pField_scal field119n2 tyOk3 isAggB3 h
@[simp] theorem al129 : pAlloc P 129 w = some (pt (sz w) 0, nw w ([(Value.slice none 0 0)]) 129) := by rw [pAlloc_eq hasZero129, zeroL129]
@[simp] theorem ld129 (h : i < (mm w b).length) : pLoad P 129 (pt b i) w = some (gt (mm w b) i, w) := pLoad_scal tyOk129 isAggB129 h
@[simp] theorem st129 (hv : v.oneCell' = true) (hf : fz w b = false) (hi : i < (mm w b).length) : pStore P 129 (pt b i) v w = some (wr w b ((mm w b).set i v)) := pStore_one tyOk129 cellsOf129 hv hf hi
@[simp] theorem ia129 (h0 : 0 ≤ j) (h1 : j < n) : pIndexAddr P 129 (sl b o n c) (.int k j) w = some (pt b (o + j.toNat * 6), w) := by
  have := pIndexAddr_slice (w := w) (b := b) (o := o) (c := c) (k := k) sliceE129 tyOk134 h0 h1; rwa [cellsOf134] at this
@[simp] theorem len129 {ty : TypeId} {a : Option Addr} : pBuiltin P .len #[129] ty [.slice a n c] w = some (i64 n, w) := len_slice sliceE129
@[simp] theorem slL129 (h0 : 0 ≤ x) (h1 : x ≤ (n : Int)) (hnc : n ≤ c) : pSlice P 129 (sl b o n c) (some (.int k x)) none none w = some (.slice (some ⟨b, if c = x.toNat then o else o + x.toNat * 6, none⟩) (n - x.toNat) (c - x.toNat), w) := by
  have := pSlice_slice (P := P) (t := 129) (w := w) (b := b) (o := o) (lo := (some (.int k x))) (hi := none) sliceE129 tyOk134 rfl rfl h0 h1 (by simp [bHi]; omega) hnc; simpa [bLo, bHi] using this
@[simp] theorem slH129 {k' : IntKind} {y : Int} (h0 : 0 ≤ y) (h1 : y ≤ (c : Int)) (hnc : n ≤ c) : pSlice P 129 (sl b o n c) none (some (.int k' y)) none w = some (.slice (some ⟨b, o, none⟩) (y.toNat) (c), w) := by
  have := pSlice_slice (P := P) (t := 129) (w := w) (b := b) (o := o) (lo := none) (hi := (some (.int k' y))) sliceE129 tyOk134 rfl rfl (Int.le_refl 0) h0 h1 hnc; simpa [bLo, bHi] using this
@[simp] theorem slB129 {k' : IntKind} {y : Int} (h0 : 0 ≤ x) (h1 : x ≤ y) (h2 : y ≤ (c : Int)) (hnc : n ≤ c) : pSlice P 129 (sl b o n c) (some (.int k x)) (some (.int k' y)) none w = some (.slice (some ⟨b, if c = x.toNat then o else o + x.toNat * 6, none⟩) (y.toNat - x.toNat) (c - x.toNat), w) := by
  have := pSlice_slice (P := P) (t := 129) (w := w) (b := b) (o := o) (lo := (some (.int k x))) (hi := (some (.int k' y))) sliceE129 tyOk134 rfl rfl h0 h1 h2 hnc; simpa [bLo, bHi] using this
@[simp] theorem slN129  (hnc : n ≤ c) : pSlice P 129 (sl b o n c) none none none w = some (.slice (some ⟨b, o, none⟩) (n) (c), w) := by
  have := pSlice_slice (P := P) (t := 129) (w := w) (b := b) (o := o) (lo := none) (hi := none) sliceE129 tyOk134 rfl rfl (Int.le_refl 0) (by simp [bLo, bHi]) (by simp [bHi]; omega) hnc; simpa [bLo, bHi] using this
@[simp] theorem bsl129 {ps : List (Nat × Value)} (hbig : n * 6 ≤ 2 ^ 24) (hp : ∀ p ∈ ps, p.2.cells.size = 6 ∧ p.1 < n) : pBuildSlice P 129 n ps w = some (sl (sz w) 0 n n,
    nw w (ps.foldl (fun l p => splice l (p.1 * 6) p.2.cells.toList) (List.replicate n ([(Value.int IntKind.u8 0), (Value.int IntKind.u64 0), (Value.int IntKind.i64 0), (Value.int IntKind.u64 0), (Value.string ByteArray.empty), (Value.bool false)])).flatten) 134) := by
  have := pBuildSlice_eq (w := w) sliceE129 hasZero134 tyOk134 cellsOf134 (by rw [zeroL134]; rfl) hbig hp; rwa [zeroL134] at this
@[simp] theorem al132 : pAlloc P 132 w = some (pt (sz w) 0, nw w ([(Value.int IntKind.u64 0)]) 132) := by rw [pAlloc_eq hasZero132, zeroL132]
@[simp] theorem ld132 (h : i < (mm w b).length) : pLoad P 132 (pt b i) w = some (gt (mm w b) i, w) := pLoad_scal tyOk132 isAggB132 h
@[simp] theorem st132 (hv : v.oneCell' = true) (hf : fz w b = false) (hi : i < (mm w b).length) : pStore P 132 (pt b i) v w = some (wr w b ((mm w b).set i v)) := pStore_one tyOk132 cellsOf132 hv hf hi
@[simp] theorem cv132 {s : TypeId} (hs : tyOk P s = true) : pConv P s 132 (.int k x) w = some (.int .u64 (IntKind.wrap .u64 x), w) := pConv_int hs intK132
@[simp] theorem al134 : pAlloc P 134 w = some (pt (sz w) 0, nw w ([(Value.int IntKind.u8 0), (Value.int IntKind.u64 0), (Value.int IntKind.i64 0), (Value.int IntKind.u64 0), (Value.string ByteArray.empty), (Value.bool false)]) 134) := by rw [pAlloc_eq hasZero134, zeroL134]
@[simp] theorem ld134 (h : i + 6 ≤ (mm w b).length) : pLoad P 134 (pt b i) w = some (.agg (((mm w b).drop i).take 6).toArray, w) := by
  have := pLoad_agg (w := w) (b := b) (i := i) tyOk134 isAggB134 (by rw [cellsOf134]; exact h); rwa [cellsOf134] at this
@[simp] theorem st134 (hs : a.size = 6) (hv : ∀ v ∈ a.toList, v.oneCell' = true) (hf : fz w b = false) (hi : i + 6 ≤ (mm w b).length) : pStore P 134 (pt b i) (.agg a) w = some (wr w b (splice (mm w b) i a.toList)) :=
  pStore_agg tyOk134 (by rw [cellsOf134, hs]) hv hf (by rw [hs]; exact hi)
@[simp] theorem bf134 {ps : List (Nat × Value)} (hp : ∀ p ∈ ps, p.1 < 6 ∧ p.2.oneCell' = true) : pBuild P 134 ps w = some (.agg (ps.foldl (fun l p => l.set p.1 p.2) ([(Value.int IntKind.u8 0), (Value.int IntKind.u64 0), (Value.int IntKind.i64 0), (Value.int IntKind.u64 0), (Value.string ByteArray.empty), (Value.bool false)])).toArray, w) := by
  have := pBuild_flat (w := w) (ps := ps) hasZero134 (by kernel_rfl) (by kernel_rfl) (by rw [zeroL134]; exact hp); rwa [zeroL134] at this
@[simp] theorem fa134n0 : pFieldAddr P 134 (pt b i) 0 w = some (pt b (i + 0), w) := pFieldAddr_eq field134n0 tyOk5 (by rw [cellsOf5]; rfl)
@[simp] theorem fi134n0 (h : 0 < a.size) : pField P 134 (.agg a) 0 w = some (gt a.toList 0, w) := pField_scal field134n0 tyOk5 isAggB5 h
@[simp] theorem fa134n1 : pFieldAddr P 134 (pt b i) 1 w = some (pt b (i + 1), w) := pFieldAddr_eq field134n1 tyOk132 (by rw [cellsOf132]; rfl)
@[simp] theorem fi134n1 (h : 1 < a.size) : pField P 134 (.agg a) 1 w = some (gt a.toList 1, w) := pField_scal field134n1 tyOk132 isAggB132 h
@[simp] theorem fa134n2 : pFieldAddr P 134 (pt b i) 2 w = some (pt b (i + 2), w) := pFieldAddr_eq field134n2 tyOk2 (by rw [cellsOf2]; rfl)
@[simp] theorem fi134n2 (h : 2 < a.size) : pField P 134 (.agg a) 2 w = some (gt a.toList 2, w) := pField_scal field134n2 tyOk2 isAggB2 h
@[simp] theorem fa134n3 : pFieldAddr P 134 (pt b i) 3 w = some (pt b (i + 3), w) := pFieldAddr_eq field134n3 tyOk132 (by rw [cellsOf132]; rfl)
@[simp] theorem fi134n3 (h : 3 < a.size) : pField P 134 (.agg a) 3 w = some (gt a.toList 3, w) := pField_scal field134n3 tyOk132 isAggB132 h
@[simp] theorem fa134n4 : pFieldAddr P 134 (pt b i) 4 w = some (pt b (i + 4), w) := pFieldAddr_eq field134n4 tyOk9 (by rw [cellsOf9]; rfl)
@[simp] theorem fi134n4 (h : 4 < a.size) : pField P 134 (.agg a) 4 w = some (gt a.toList 4, w) := pField_scal field134n4 tyOk9 isAggB9 h
@[simp] theorem fa134n5 : pFieldAddr P 134 (pt b i) 5 w = some (pt b (i + 5), w) := pFieldAddr_eq field134n5 tyOk4 (by rw [cellsOf4]; rfl)
@[simp] theorem fi134n5 (h : 5 < a.size) : pField P 134 (.agg a) 5 w = some (gt a.toList 5, w) := pField_scal field134n5 tyOk4 isAggB4 h
@[simp] theorem al137 : pAlloc P 137 w = some (pt (sz w) 0, nw w ([(Value.slice none 0 0)]) 137) := by rw [pAlloc_eq hasZero137, zeroL137]
@[simp] theorem ld137 (h : i + 1 ≤ (mm w b).length) : pLoad P 137 (pt b i) w = some (.agg (((mm w b).drop i).take 1).toArray, w) := by
  have := pLoad_agg (w := w) (b := b) (i := i) tyOk137 isAggB137 (by rw [cellsOf137]; exact h); rwa [cellsOf137] at this
@[simp] theorem st137 (hs : a.size = 1) (hv : ∀ v ∈ a.toList, v.oneCell' = true) (hf : fz w b = false) (hi : i + 1 ≤ (mm w b).length) : pStore P 137 (pt b i) (.agg a) w = some (wr w b (splice (mm w b) i a.toList)) :=
  pStore_agg tyOk137 (by rw [cellsOf137, hs]) hv hf (by rw [hs]; exact hi)
@[simp] theorem bf137 {ps : List (Nat × Value)} (hp : ∀ p ∈ ps, p.1 < 1 ∧ p.2.oneCell' = true) : pBuild P 137 ps w = some (.agg (ps.foldl (fun l p => l.set p.1 p.2) ([(Value.slice none 0 0)])).toArray, w) := by
  have := pBuild_flat (w := w) (ps := ps) hasZero137 (by kernel_rfl) (by kernel_rfl) (by rw [zeroL137]; exact hp); rwa [zeroL137] at this
@[simp] theorem fa137n0 : pFieldAddr P 137 (pt b i) 0 w = some (pt b (i + 0), w) := pFieldAddr_eq field137n0 tyOk22 (by rw [cellsOf22]; rfl)
@[simp] theorem fi137n0 (h : 0 < a.size) : pField P 137 (.agg a) 0 w = some (gt a.toList 0, w) := pField_scal field137n0 tyOk22 isAggB22 h
@[simp] theorem al140 : pAlloc P 140 w = some (pt (sz w) 0, nw w ([(Value.slice none 0 0)]) 140) := by rw [pAlloc_eq hasZero140, zeroL140]
@[simp] theorem ld140 (h : i < (mm w b).length) : pLoad P 140 (pt b i) w = some (gt (mm w b) i, w) := pLoad_scal tyOk140 isAggB140 h
@[simp] theorem st140 (hv : v.oneCell' = true) (hf : fz w b = false) (hi : i < (mm w b).length) : pStore P 140 (pt b i) v w = some (wr w b ((mm w b).set i v)) := pStore_one tyOk140 cellsOf140 hv hf hi
@[simp] theorem ia140 (h0 : 0 ≤ j) (h1 : j < n) : pIndexAddr P 140 (sl b o n c) (.int k j) w = some (pt b (o + j.toNat * 6), w) := by
  have := pIndexAddr_slice (w := w) (b := b) (o := o) (c := c) (k := k) sliceE140 tyOk147 h0 h1; rwa [cellsOf147] at this
@[simp] theorem len140 {ty : TypeId} {a : Option Addr} : pBuiltin P .len #[140] ty [.slice a n c] w = some (i64 n, w) := len_slice sliceE140
@[simp] theorem slL140 (h0 : 0 ≤ x) (h1 : x ≤ (n : Int)) (hnc : n ≤ c) : pSlice P 140 (sl b o n c) (some (.int k x)) none none w = some (.slice (some ⟨b, if c = x.toNat then o else o + x.toNat * 6, none⟩) (n - x.toNat) (c - x.toNat), w) := by
  have := pSlice_slice (P := P) (t := 140) (w := w) (b := b) (o := o) (lo := (some (.int k x))) (hi := none) sliceE140 tyOk147 rfl rfl h0 h1 (by simp [bHi]; omega) hnc; simpa [bLo, bHi] using this
@[simp] theorem slH140 {k' : IntKind} {y : Int} (h0 : 0 ≤ y) (h1 : y ≤ (c : Int)) (hnc : n ≤ c) : pSlice P 140 (sl b o n c) none (some (.int k' y)) none w = some (.slice (some ⟨b, o, none⟩) (y.toNat) (c), w) := by
  have := pSlice_slice (P := P) (t := 140) (w := w) (b := b) (o := o) (lo := none) (hi := (some (.int k' y))) sliceE140 tyOk147 rfl rfl (Int.le_refl 0) h0 h1 hnc; simpa [bLo, bHi] using this
@[simp] theorem slB140 {k' : IntKind} {y : Int} (h0 : 0 ≤ x) (h1 : x ≤ y) (h2 : y ≤ (c : Int)) (hnc : n ≤ c) : pSlice P 140 (sl b o n c) (some (.int k x)) (some (.int k' y)) none w = some (.slice (some ⟨b, if c = x.toNat then o else o + x.toNat * 6, none⟩) (y.toNat - x.toNat) (c - x.toNat), w) := by
  have := pSlice_slice (P := P) (t := 140) (w := w) (b := b) (o := o) (lo := (some (.int k x))) (hi := (some (.int k' y))) sliceE140 tyOk147 rfl rfl h0 h1 h2 hnc; simpa [bLo, bHi] using this
@[simp] theorem slN140  (hnc : n ≤ c) : pSlice P 140 (sl b o n c) none none none w = some (.slice (some ⟨b, o, none⟩) (n) (c), w) := by
  have := pSlice_slice (P := P) (t := 140) (w := w) (b := b) (o := o) (lo := none) (hi := none) sliceE140 tyOk147 rfl rfl (Int.le_refl 0) (by simp [bLo, bHi]) (by simp [bHi]; omega) hnc; simpa [bLo, bHi] using this
@[simp] theorem bsl140 {ps : List (Nat × Value)} (hbig : n * 6 ≤ 2 ^ 24) (hp : ∀ p ∈ ps, p.2.cells.size = 6 ∧ p.1 < n) : pBuildSlice P 140 n ps w = some (sl (sz w) 0 n n,
    nw w (ps.foldl (fun l p => splice l (p.1 * 6) p.2.cells.toList) (List.replicate n ([(Value.int IntKind.u8 0), (Value.int IntKind.u64 0), (Value.int IntKind.i64 0), (Value.float FloatKind.f64 0), (Value.string ByteArray.empty), (Value.bool false)])).flatten) 147) := by
  have := pBuildSlice_eq (w := w) sliceE140 hasZero147 tyOk147 cellsOf147 (by rw [zeroL147]; rfl) hbig hp; rwa [zeroL147] at this
@[simp] theorem al142 : pAlloc P 142 w = some (pt (sz w) 0, nw w ([(Value.int IntKind.i64 0), (Value.int IntKind.i64 0)]) 142) := by rw [pAlloc_eq hasZero142, zeroL142]
@[simp] theorem ld142 (h : i + 2 ≤ (mm w b).length) : pLoad P 142 (pt b i) w = some (.agg (((mm w b).drop i).take 2).toArray, w) := by
  have := pLoad_agg (w := w) (b := b) (i := i) tyOk142 isAggB142 (by rw [cellsOf142]; exact h); rwa [cellsOf142] at this
@[simp] theorem st142 (hs : a.size = 2) (hv : ∀ v ∈ a.toList, v.oneCell' = true) (hf : fz w b = false) (hi : i + 2 ≤ (mm w b).length) : pStore P 142 (pt b i) (.agg a) w = some (wr w b (splice (mm w b) i a.toList)) :=
  pStore_agg tyOk142 (by rw [cellsOf142, hs]) hv hf (by rw [hs]; exact hi)
@[simp] theorem bf142 {ps : List (Nat × Value)} (hp : ∀ p ∈ ps, p.1 < 2 ∧ p.2.oneCell' = true) : pBuild P 142 ps w = some (.agg (ps.foldl (fun l p => l.set p.1 p.2) ([(Value.int IntKind.i64 0), (Value.int IntKind.i64 0)])).toArray, w) := by
  have := pBuild_flat (w := w) (ps := ps) hasZero142 (by kernel_rfl) (by kernel_rfl) (by rw [zeroL142]; exact hp); rwa [zeroL142] at this
@[simp] theorem fa142n0 : pFieldAddr P 142 (pt b i) 0 w = some (pt b (i + 0), w) := pFieldAddr_eq field142n0 tyOk26 (by rw [cellsOf26]; rfl)
@[simp] theorem fi142n0 (h : 0 < a.size) : pField P 142 (.agg a) 0 w = some (gt a.toList 0, w) := pField_scal field142n0 tyOk26 isAggB26 h
@[simp] theorem fa142n1 : pFieldAddr P 142 (pt b i) 1 w = some (pt b (i + 1), w) := pFieldAddr_eq field142n1 tyOk3 (by rw [cellsOf3]; rfl)
@[simp] theorem fi142n1 (h : 1 < a.size) : pField P 142 (.agg a) 1 w = some (gt a.toList 1, w) := pField_scal field142n1 tyOk3 isAggB3 h
@[simp] theorem al145 : pAlloc P 145 w = some (pt (sz w) 0, nw w ([(Value.float FloatKind.f64 0)]) 145) := by rw [pAlloc_eq hasZero145, zeroL145]
@[simp] theorem ld145 (h : i < (mm w b).length) : pLoad P 145 (pt b i) w = some (gt (mm w b) i, w) := pLoad_scal tyOk145 isAggB145 h
@[simp] theorem st145 (hv : v.oneCell' = true) (hf : fz w b = false) (hi : i < (mm w b).length) : pStore P 145 (pt b i) v w = some (wr w b ((mm w b).set i v)) := pStore_one tyOk145 cellsOf145 hv hf hi
@[simp] theorem al147 : pAlloc P 147 w = some (pt (sz w) 0, nw w ([(Value.int IntKind.u8 0), (Value.int IntKind.u64 0), (Value.int IntKind.i64 0), (Value.float FloatKind.f64 0), (Value.string ByteArray.empty), (Value.bool false)]) 147) := by rw [pAlloc_eq hasZero147, zeroL147]
@[simp] theorem ld147 (h : i + 6 ≤ (mm w b).length) : pLoad P 147 (pt b i) w = some (.agg (((mm w b).drop i).take 6).toArray, w) := by
  have := pLoad_agg (w := w) (b := b) (i := i) tyOk147 isAggB147 (by rw [cellsOf147]; exact h); rwa [cellsOf147] at this
@[simp] theorem st147 (hs : a.size = 6) (hv : ∀ v ∈ a.toList, v.oneCell' = true) (hf : fz w b = false) (hi : i + 6 ≤ (mm w b).length) : pStore P 147 (pt b i) (.agg a) w = some (wr w b (splice (mm w b) i a.toList)) :=
  pStore_agg tyOk147 (by rw [cellsOf147, hs]) hv hf (by rw [hs]; exact hi)
@[simp] theorem bf147 {ps : List (Nat × Value)} (hp : ∀ p ∈ ps, p.1 < 6 ∧ p.2.oneCell' = true) : pBuild P 147 ps w = some (.agg (ps.foldl (fun l p => l.set p.1 p.2) ([(Value.int IntKind.u8 0), (Value.int IntKind.u64 0), (Value.int IntKind.i64 0), (Value.float FloatKind.f64 0), (Value.string ByteArray.empty), (Value.bool false)])).toArray, w) := by
  have := pBuild_flat (w := w) (ps := ps) hasZero147 (by kernel_rfl) (by kernel_rfl) (by rw [zeroL147]; exact hp); rwa [zeroL147] at this
@[simp] theorem fa147n0 : pFieldAddr P 147 (pt b i) 0 w = some (pt b (i + 0), w) := pFieldAddr_eq field147n0 tyOk5 (by rw [cellsOf5]; rfl)
@[simp] theorem fi147n0 (h : 0 < a.size) : pField P 147 (.agg a) 0 w = some (gt a.toList 0, w) := pField_scal field147n0 tyOk5 isAggB5 h
@[simp] theorem fa147n1 : pFieldAddr P 147 (pt b i) 1 w = some (pt b (i + 1), w) := pFieldAddr_eq field147n1 tyOk132 (by rw [cellsOf132]; rfl)
@[simp] theorem fi147n1 (h : 1 < a.size) : pField P 147 (.agg a) 1 w = some (gt a.toList 1, w) := pField_scal field147n1 tyOk132 isAggB132 h
@[simp] theorem fa147n2 : pFieldAddr P 147 (pt b i) 2 w = some (pt b (i + 2), w) := pFieldAddr_eq field147n2 tyOk2 (by rw [cellsOf2]; rfl)
@[simp] theorem fi147n2 (h : 2 < a.size) : pField P 147 (.agg a) 2 w = some (gt a.toList 2, w) := pField_scal field147n2 tyOk2 isAggB2 h
@[simp] theorem fa147n3 : pFieldAddr P 147 (pt b i) 3 w = some (pt b (i + 3), w) := pFieldAddr_eq field147n3 tyOk145 (by rw [cellsOf145]; rfl)
@[simp] theorem fi147n3 (h : 3 < a.size) : pField P 147 (.agg a) 3 w = some (gt a.toList 3, w) := pField_scal field147n3 tyOk145 isAggB145 h
@[simp] theorem fa147n4 : pFieldAddr P 147 (pt b i) 4 w = some (pt b (i + 4), w) := pFieldAddr_eq field147n4 tyOk9 (by rw [cellsOf9]; rfl)
@[simp] theorem fi147n4 (h : 4 < a.size) : pField P 147 (.agg a) 4 w = some (gt a.toList 4, w) := pField_scal field147n4 tyOk9 isAggB9 h
@[simp] theorem fa147n5 : pFieldAddr P 147 (pt b i) 5 w = some (pt b (i + 5), w) := pFieldAddr_eq field147n5 tyOk4 (by rw [cellsOf4]; rfl)
@[simp] theorem fi147n5 (h : 5 < a.size) : pField P 147 (.agg a) 5 w = some (gt a.toList 5, w) := pField_scal field147n5 tyOk4 isAggB4 h
@[simp] theorem al154 : pAlloc P 154 w = some (pt (sz w) 0, nw w ([(Value.pointer none)]) 154) := by rw [pAlloc_eq hasZero154, zeroL154]
@[simp] theorem ld154 (h : i < (mm w b).length) : pLoad P 154 (pt b i) w = some (gt (mm w b) i, w) := pLoad_scal tyOk154 isAggB154 h
@[simp] theorem st154 (hv : v.oneCell' = true) (hf : fz w b = false) (hi : i < (mm w b).length) : pStore P 154 (pt b i) v w = some (wr w b ((mm w b).set i v)) := pStore_one tyOk154 cellsOf154 hv hf hi
@[simp] theorem eqn154 {lit : Bool} {q : Option Addr} : pBin P .eql 154 lit (.pointer q) (.pointer none) w = some (.bool q.isNone, w) := eqNil und154
@[simp] theorem nen154 {lit : Bool} {q : Option Addr} : pBin P .neq 154 lit (.pointer q) (.pointer none) w = some (.bool q.isSome, w) := neNil und154
@[simp] theorem al165 : pAlloc P 165 w = some (pt (sz w) 0, nw w ([(Value.slice none 0 0), (Value.int IntKind.i64 0)]) 165) := by rw [pAlloc_eq hasZero165, zeroL165]
@[simp] theorem ld165 (h : i + 2 ≤ (mm w b).length) : pLoad P 165 (pt b i) w = some (.agg (((mm w b).drop i).take 2).toArray, w) := by
  have := pLoad_agg (w := w) (b := b) (i := i) tyOk165 isAggB165 (by rw [cellsOf165]; exact h); rwa [cellsOf165] at this
@[simp] theorem st165 (hs : a.size = 2) (hv : ∀ v ∈ a.toList, v.oneCell' = true) (hf : fz w b = false) (hi : i + 2 ≤ (mm w b).length) : pStore P 165 (pt b i) (.agg a) w = some (wr w b (splice (mm w b) i a.toList)) :=
  pStore_agg tyOk165 (by rw [cellsOf165, hs]) hv hf (by rw [hs]; exact hi)
@[simp] theorem bf165 {ps : List (Nat × Value)} (hp : ∀ p ∈ ps, p.1 < 2 ∧ p.2.oneCell' = true) : pBuild P 165 ps w = some (.agg (ps.foldl (fun l p => l.set p.1 p.2) ([(Value.slice none 0 0), (Value.int IntKind.i64 0)])).toArray, w) := by
  have := pBuild_flat (w := w) (ps := ps) hasZero165 (by kernel_rfl) (by kernel_rfl) (by rw [zeroL165]; exact hp); rwa [zeroL165] at this
@[simp] theorem fa165n0 : pFieldAddr P 165 (pt b i) 0 w = some (pt b (i + 0), w) := pFieldAddr_eq field165n0 tyOk22 (by rw [cellsOf22]; rfl)
@[simp] theorem fi165n0 (h : 0 < a.size) : pField P 165 (.agg a) 0 w = some (gt a.toList 0, w) := pField_scal field165n0 tyOk22 isAggB22 h
@[simp] theorem fa165n1 : pFieldAddr P 165 (pt b i) 1 w = some (pt b (i + 1), w) := pFieldAddr_eq field165n1 tyOk3 (by rw [cellsOf3]; rfl)
@[simp] theorem fi165n1 (h : 1 < a.size) : pField P 165 (.agg a) 1 w = some (gt a.toList 1, w) := pField_scal field165n1 tyOk3 isAggB3 h
end
end Go.Proofs.Yticncfkpfpkfoaa
