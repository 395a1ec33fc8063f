/- Facts on the program's types, printed by types.py. -/
import Derived.Test.YtieejbkbdfccdaaGreatPrims3
import Derived.Test.YtieejbkbdfccdaaGreatBase
set_option linter.unusedVariables false
namespace Go.Proofs.YtieejbkbdfccdaaGreat
open Go
section
variable {w : World} {b i o n c : Nat} {k : IntKind} {x j : Int} {v : Value} {a : Array Value} {lo hi : Option Value}
@[simp] theorem tyOk2 : tyOk P 2 = true := by kernel_rfl
@[simp] theorem isAggB2 : isAggB P 2 = false := by kernel_rfl
@[simp] theorem cellsOf2 : P.cellsOf 2 = 1 := by kernel_rfl
@[simp] theorem intK2 : intK P 2 = some IntKind.i64 := by kernel_rfl
@[simp] theorem tyOk3 : tyOk P 3 = true := by kernel_rfl
@[simp] theorem isAggB3 : isAggB P 3 = false := by kernel_rfl
@[simp] theorem cellsOf3 : P.cellsOf 3 = 1 := by kernel_rfl
@[simp] theorem hasZero3 : hasZero P 3 = true := by kernel_rfl
@[simp] theorem zeroL3 : zeroL P 3 = [(Value.int IntKind.i64 0)] := by kernel_rfl
@[simp] theorem intK3 : intK P 3 = some IntKind.i64 := by kernel_rfl
@[simp] theorem tyOk4 : tyOk P 4 = true := by kernel_rfl
@[simp] theorem isAggB4 : isAggB P 4 = false := by kernel_rfl
@[simp] theorem cellsOf4 : P.cellsOf 4 = 1 := by kernel_rfl
@[simp] theorem hasZero4 : hasZero P 4 = true := by kernel_rfl
@[simp] theorem zeroL4 : zeroL P 4 = [(Value.bool false)] := by kernel_rfl
@[simp] theorem und4 : P.underlying 4 = some .bool := by kernel_rfl
@[simp] theorem tyOk5 : tyOk P 5 = true := by kernel_rfl
@[simp] theorem isAggB5 : isAggB P 5 = false := by kernel_rfl
@[simp] theorem cellsOf5 : P.cellsOf 5 = 1 := by kernel_rfl
@[simp] theorem bytesOf5 : P.bytesOf 5 = 1 := by kernel_rfl
@[simp] theorem hasZero5 : hasZero P 5 = true := by kernel_rfl
@[simp] theorem zeroL5 : zeroL P 5 = [(Value.int IntKind.u8 0)] := by kernel_rfl
@[simp] theorem intK5 : intK P 5 = some IntKind.u8 := by kernel_rfl
@[simp] theorem tyOk9 : tyOk P 9 = true := by kernel_rfl
@[simp] theorem isAggB9 : isAggB P 9 = false := by kernel_rfl
@[simp] theorem cellsOf9 : P.cellsOf 9 = 1 := by kernel_rfl
@[simp] theorem hasZero9 : hasZero P 9 = true := by kernel_rfl
@[simp] theorem zeroL9 : zeroL P 9 = [(Value.string ByteArray.empty)] := by kernel_rfl
@[simp] theorem und9 : P.underlying 9 = some .string := by kernel_rfl
@[simp] theorem tyOk22 : tyOk P 22 = true := by kernel_rfl
@[simp] theorem isAggB22 : isAggB P 22 = false := by kernel_rfl
@[simp] theorem cellsOf22 : P.cellsOf 22 = 1 := by kernel_rfl
@[simp] theorem sliceE22 : sliceE P 22 = some 63 := by kernel_rfl
@[simp] theorem tyOk23 : tyOk P 23 = true := by kernel_rfl
@[simp] theorem isAggB23 : isAggB P 23 = false := by kernel_rfl
@[simp] theorem cellsOf23 : P.cellsOf 23 = 1 := by kernel_rfl
@[simp] theorem sliceE23 : sliceE P 23 = some 3 := by kernel_rfl
@[simp] theorem tyOk25 : tyOk P 25 = true := by kernel_rfl
@[simp] theorem isAggB25 : isAggB P 25 = true := by kernel_rfl
@[simp] theorem cellsOf25 : P.cellsOf 25 = 2 := by kernel_rfl
@[simp] theorem field25n0 : fieldB P 25 0 = some (0, 3) := by kernel_rfl
@[simp] theorem field25n1 : fieldB P 25 1 = some (1, 23) := by kernel_rfl
@[simp] theorem tyOk26 : tyOk P 26 = true := by kernel_rfl
@[simp] theorem isAggB26 : isAggB P 26 = false := by kernel_rfl
@[simp] theorem cellsOf26 : P.cellsOf 26 = 1 := by kernel_rfl
@[simp] theorem tyOk29 : tyOk P 29 = true := by kernel_rfl
@[simp] theorem isAggB29 : isAggB P 29 = true := by kernel_rfl
@[simp] theorem cellsOf29 : P.cellsOf 29 = 6 := by kernel_rfl
@[simp] theorem hasZero29 : hasZero P 29 = true := by kernel_rfl
@[simp] theorem zeroL29 : zeroL P 29 = [(Value.int IntKind.i64 0), (Value.int IntKind.i64 0), (Value.int IntKind.i64 0), (Value.int IntKind.i64 0), (Value.int IntKind.i64 0), (Value.int IntKind.i64 0)] := by kernel_rfl
@[simp] theorem field29n0 : fieldB P 29 0 = some (0, 3) := by kernel_rfl
@[simp] theorem field29n1 : fieldB P 29 1 = some (1, 3) := by kernel_rfl
@[simp] theorem field29n2 : fieldB P 29 2 = some (2, 3) := by kernel_rfl
@[simp] theorem field29n3 : fieldB P 29 3 = some (3, 3) := by kernel_rfl
@[simp] theorem field29n4 : fieldB P 29 4 = some (4, 3) := by kernel_rfl
@[simp] theorem field29n5 : fieldB P 29 5 = some (5, 3) := by kernel_rfl
@[simp] theorem tyOk30 : tyOk P 30 = true := by kernel_rfl
@[simp] theorem isAggB30 : isAggB P 30 = false := by kernel_rfl
@[simp] theorem cellsOf30 : P.cellsOf 30 = 1 := by kernel_rfl
@[simp] theorem und30 : P.underlying 30 = some (.pointer 113) := by kernel_rfl
@[simp] theorem tyOk32 : tyOk P 32 = true := by kernel_rfl
@[simp] theorem isAggB32 : isAggB P 32 = true := by kernel_rfl
@[simp] theorem cellsOf32 : P.cellsOf 32 = 2 := by kernel_rfl
@[simp] theorem hasZero32 : hasZero P 32 = true := by kernel_rfl
@[simp] theorem zeroL32 : zeroL P 32 = [(Value.pointer none), (Value.int IntKind.i64 0)] := by kernel_rfl
@[simp] theorem field32n0 : fieldB P 32 0 = some (0, 30) := by kernel_rfl
@[simp] theorem field32n1 : fieldB P 32 1 = some (1, 3) := by kernel_rfl
@[simp] theorem und33 : P.underlying 33 = some (.pointer 54) := by kernel_rfl
@[simp] theorem tyOk38 : tyOk P 38 = true := by kernel_rfl
@[simp] theorem isAggB38 : isAggB P 38 = false := by kernel_rfl
@[simp] theorem cellsOf38 : P.cellsOf 38 = 1 := by kernel_rfl
@[simp] theorem tyOk42 : tyOk P 42 = true := by kernel_rfl
@[simp] theorem isAggB42 : isAggB P 42 = true := by kernel_rfl
@[simp] theorem cellsOf42 : P.cellsOf 42 = 2 := by kernel_rfl
@[simp] theorem hasZero42 : hasZero P 42 = true := by kernel_rfl
@[simp] theorem zeroL42 : zeroL P 42 = [(Value.int IntKind.i64 0), (Value.int IntKind.i64 0)] := by kernel_rfl
@[simp] theorem field42n0 : fieldB P 42 0 = some (0, 3) := by kernel_rfl
@[simp] theorem field42n1 : fieldB P 42 1 = some (1, 3) := by kernel_rfl
@[simp] theorem tyOk43 : tyOk P 43 = true := by kernel_rfl
@[simp] theorem cellsOf43 : P.cellsOf 43 = 4 := by kernel_rfl
@[simp] theorem hasZero43 : hasZero P 43 = true := by kernel_rfl
@[simp] theorem zeroL43 : zeroL P 43 = [(Value.int IntKind.i64 0), (Value.int IntKind.i64 0), (Value.int IntKind.i64 0), (Value.int IntKind.i64 0)] := by kernel_rfl
@[simp] theorem arrE43 : arrE P 43 = some (2, 42) := by kernel_rfl
@[simp] theorem und43 : P.underlying 43 = some (.array 2 42) := by kernel_rfl
@[simp] theorem tyOk54 : tyOk P 54 = true := by kernel_rfl
@[simp] theorem isAggB54 : isAggB P 54 = true := by kernel_rfl
@[simp] theorem cellsOf54 : P.cellsOf 54 = 2 := by kernel_rfl
@[simp] theorem hasZero54 : hasZero P 54 = true := by kernel_rfl
@[simp] theorem zeroL54 : zeroL P 54 = [(Value.slice none 0 0), (Value.int IntKind.i64 0)] := by kernel_rfl
@[simp] theorem field54n0 : fieldB P 54 0 = some (0, 22) := by kernel_rfl
@[simp] theorem field54n1 : fieldB P 54 1 = some (1, 3) := by kernel_rfl
@[simp] theorem tyOk58 : tyOk P 58 = true := by kernel_rfl
@[simp] theorem isAggB58 : isAggB P 58 = false := by kernel_rfl
@[simp] theorem cellsOf58 : P.cellsOf 58 = 1 := by kernel_rfl
@[simp] theorem tyOk59 : tyOk P 59 = true := by kernel_rfl
@[simp] theorem isAggB59 : isAggB P 59 = false := by kernel_rfl
@[simp] theorem cellsOf59 : P.cellsOf 59 = 1 := by kernel_rfl
@[simp] theorem sliceE59 : sliceE P 59 = some 105 := by kernel_rfl
@[simp] theorem tyOk61 : tyOk P 61 = true := by kernel_rfl
@[simp] theorem isAggB61 : isAggB P 61 = true := by kernel_rfl
@[simp] theorem cellsOf61 : P.cellsOf 61 = 8 := by kernel_rfl
@[simp] theorem hasZero61 : hasZero P 61 = true := by kernel_rfl
@[simp] theorem zeroL61 : zeroL P 61 = [(Value.int IntKind.i64 0), (Value.int IntKind.i64 0), (Value.int IntKind.i64 0), (Value.int IntKind.i64 0), (Value.float FloatKind.f64 0), (Value.int IntKind.i64 0), (Value.string ByteArray.empty), (Value.slice none 0 0)] := by kernel_rfl
@[simp] theorem field61n0 : fieldB P 61 0 = some (0, 3) := by kernel_rfl
@[simp] theorem field61n1 : fieldB P 61 1 = some (1, 2) := by kernel_rfl
@[simp] theorem field61n2 : fieldB P 61 2 = some (2, 2) := by kernel_rfl
@[simp] theorem field61n3 : fieldB P 61 3 = some (3, 2) := by kernel_rfl
@[simp] theorem field61n4 : fieldB P 61 4 = some (4, 58) := by kernel_rfl
@[simp] theorem field61n5 : fieldB P 61 5 = some (5, 3) := by kernel_rfl
@[simp] theorem field61n6 : fieldB P 61 6 = some (6, 9) := by kernel_rfl
@[simp] theorem field61n7 : fieldB P 61 7 = some (7, 59) := by kernel_rfl
@[simp] theorem tyOk63 : tyOk P 63 = true := by kernel_rfl
@[simp] theorem isAggB63 : isAggB P 63 = true := by kernel_rfl
@[simp] theorem cellsOf63 : P.cellsOf 63 = 9 := by kernel_rfl
@[simp] theorem bytesOf63 : P.bytesOf 63 = 104 := by kernel_rfl
@[simp] theorem hasZero63 : hasZero P 63 = true := by kernel_rfl
@[simp] theorem zeroL63 : zeroL P 63 = [(Value.string ByteArray.empty), (Value.int IntKind.i64 0), (Value.int IntKind.i64 0), (Value.int IntKind.i64 0), (Value.int IntKind.i64 0), (Value.float FloatKind.f64 0), (Value.int IntKind.i64 0), (Value.string ByteArray.empty), (Value.slice none 0 0)] := by kernel_rfl
@[simp] theorem field63n0 : fieldB P 63 0 = some (0, 9) := by kernel_rfl
@[simp] theorem field63n1 : fieldB P 63 1 = some (1, 61) := by kernel_rfl
@[simp] theorem tyOk72 : tyOk P 72 = true := by kernel_rfl
@[simp] theorem isAggB72 : isAggB P 72 = false := by kernel_rfl
@[simp] theorem cellsOf72 : P.cellsOf 72 = 1 := by kernel_rfl
@[simp] theorem bytesOf72 : P.bytesOf 72 = 24 := by kernel_rfl
@[simp] theorem hasZero72 : hasZero P 72 = true := by kernel_rfl
@[simp] theorem zeroL72 : zeroL P 72 = [(Value.slice none 0 0)] := by kernel_rfl
@[simp] theorem sliceE72 : sliceE P 72 = some 5 := by kernel_rfl
@[simp] theorem tyOk74 : tyOk P 74 = true := by kernel_rfl
@[simp] theorem isAggB74 : isAggB P 74 = false := by kernel_rfl
@[simp] theorem cellsOf74 : P.cellsOf 74 = 1 := by kernel_rfl
@[simp] theorem sliceE74 : sliceE P 74 = some 90 := by kernel_rfl
@[simp] theorem tyOk75 : tyOk P 75 = true := by kernel_rfl
@[simp] theorem isAggB75 : isAggB P 75 = false := by kernel_rfl
@[simp] theorem cellsOf75 : P.cellsOf 75 = 1 := by kernel_rfl
@[simp] theorem sliceE75 : sliceE P 75 = some 96 := by kernel_rfl
@[simp] theorem hasZero77 : hasZero P 77 = true := by kernel_rfl
@[simp] theorem zeroL77 : zeroL P 77 = [(Value.slice none 0 0), (Value.slice none 0 0), (Value.int IntKind.i64 0), (Value.bool false), (Value.int IntKind.i64 0)] := by kernel_rfl
@[simp] theorem field77n0 : fieldB P 77 0 = some (0, 74) := by kernel_rfl
@[simp] theorem field77n1 : fieldB P 77 1 = some (1, 75) := by kernel_rfl
@[simp] theorem field77n2 : fieldB P 77 2 = some (2, 3) := by kernel_rfl
@[simp] theorem field77n3 : fieldB P 77 3 = some (3, 4) := by kernel_rfl
@[simp] theorem field77n4 : fieldB P 77 4 = some (4, 3) := by kernel_rfl
@[simp] theorem sliceE78 : sliceE P 78 = some 72 := by kernel_rfl
@[simp] theorem tyOk90 : tyOk P 90 = true := by kernel_rfl
@[simp] theorem isAggB90 : isAggB P 90 = true := by kernel_rfl
@[simp] theorem cellsOf90 : P.cellsOf 90 = 64 := by kernel_rfl
@[simp] theorem bytesOf90 : P.bytesOf 90 = 64 := by kernel_rfl
@[simp] theorem hasZero90 : hasZero P 90 = true := by kernel_rfl
@[simp] theorem zeroL90 : zeroL P 90 = bs (zb 64) := by kernel_rfl
@[simp] theorem arrE90 : arrE P 90 = some (64, 5) := by kernel_rfl
@[simp] theorem eqg90 : P.eqGuardType P.depth 90 = false := by kernel_rfl
@[simp] theorem tyOk96 : tyOk P 96 = true := by kernel_rfl
@[simp] theorem isAggB96 : isAggB P 96 = true := by kernel_rfl
@[simp] theorem cellsOf96 : P.cellsOf 96 = 65 := by kernel_rfl
@[simp] theorem bytesOf96 : P.bytesOf 96 = 72 := by kernel_rfl
@[simp] theorem hasZero96 : hasZero P 96 = true := by kernel_rfl
@[simp] theorem zeroL96 : zeroL P 96 = (Value.int IntKind.i64 0) :: bs (zb 64) := by kernel_rfl
@[simp] theorem field96n0 : fieldB P 96 0 = some (0, 3) := by kernel_rfl
@[simp] theorem field96n1 : fieldB P 96 1 = some (1, 90) := by kernel_rfl
@[simp] theorem tyOk105 : tyOk P 105 = true := by kernel_rfl
@[simp] theorem isAggB105 : isAggB P 105 = true := by kernel_rfl
@[simp] theorem cellsOf105 : P.cellsOf 105 = 2 := by kernel_rfl
@[simp] theorem bytesOf105 : P.bytesOf 105 = 24 := by kernel_rfl
@[simp] theorem hasZero105 : hasZero P 105 = true := by kernel_rfl
@[simp] theorem zeroL105 : zeroL P 105 = [(Value.float FloatKind.f64 0), (Value.string ByteArray.empty)] := by kernel_rfl
@[simp] theorem field105n0 : fieldB P 105 0 = some (0, 58) := by kernel_rfl
@[simp] theorem field105n1 : fieldB P 105 1 = some (1, 9) := by kernel_rfl
@[simp] theorem hasZero113 : hasZero P 113 = true := by kernel_rfl
@[simp] theorem zeroL113 : zeroL P 113 = [(Value.string ByteArray.empty), (Value.int IntKind.i64 0), (Value.int IntKind.i64 0), (Value.int IntKind.i64 0), (Value.int IntKind.i64 0), (Value.float FloatKind.f64 0), (Value.int IntKind.i64 0), (Value.string ByteArray.empty), (Value.slice none 0 0), (Value.pointer none), (Value.pointer none), (Value.int IntKind.i64 0)] := by kernel_rfl
@[simp] theorem field113n0 : fieldB P 113 0 = some (0, 9) := by kernel_rfl
@[simp] theorem field113n1 : fieldB P 113 1 = some (1, 61) := by kernel_rfl
@[simp] theorem field113n2 : fieldB P 113 2 = some (9, 30) := by kernel_rfl
@[simp] theorem field113n3 : fieldB P 113 3 = some (10, 30) := by kernel_rfl
@[simp] theorem field113n4 : fieldB P 113 4 = some (11, 3) := by kernel_rfl
@[simp] theorem hasZero115 : hasZero P 115 = true := by kernel_rfl
@[simp] theorem zeroL115 : zeroL P 115 = [(Value.slice none 0 0)] := by kernel_rfl
@[simp] theorem field115n0 : fieldB P 115 0 = some (0, 72) := by kernel_rfl
@[simp] theorem hasZero124 : hasZero P 124 = true := by kernel_rfl
@[simp] theorem zeroL124 : zeroL P 124 = [(Value.pointer none), (Value.int IntKind.i64 0), (Value.int IntKind.i64 0), (Value.int IntKind.i64 0)] := by kernel_rfl
@[simp] theorem field124n0 : fieldB P 124 0 = some (0, 38) := by kernel_rfl
@[simp] theorem field124n1 : fieldB P 124 1 = some (1, 42) := by kernel_rfl
@[simp] theorem field124n2 : fieldB P 124 2 = some (3, 3) := by kernel_rfl
@[simp] theorem tyOk127 : tyOk P 127 = true := by kernel_rfl
@[simp] theorem isAggB127 : isAggB P 127 = false := by kernel_rfl
@[simp] theorem cellsOf127 : P.cellsOf 127 = 1 := by kernel_rfl
@[simp] theorem intK127 : intK P 127 = some IntKind.u64 := by kernel_rfl
@[simp] theorem tyOk129 : tyOk P 129 = true := by kernel_rfl
@[simp] theorem isAggB129 : isAggB P 129 = false := by kernel_rfl
@[simp] theorem cellsOf129 : P.cellsOf 129 = 1 := by kernel_rfl
@[simp] theorem hasZero129 : hasZero P 129 = true := by kernel_rfl
@[simp] theorem zeroL129 : zeroL P 129 = [(Value.slice none 0 0)] := by kernel_rfl
@[simp] theorem sliceE129 : sliceE P 129 = some 136 := by kernel_rfl
@[simp] theorem tyOk131 : tyOk P 131 = true := by kernel_rfl
@[simp] theorem isAggB131 : isAggB P 131 = true := by kernel_rfl
@[simp] theorem cellsOf131 : P.cellsOf 131 = 2 := by kernel_rfl
@[simp] theorem hasZero131 : hasZero P 131 = true := by kernel_rfl
@[simp] theorem zeroL131 : zeroL P 131 = [(Value.int IntKind.i64 0), (Value.int IntKind.i64 0)] := by kernel_rfl
@[simp] theorem field131n0 : fieldB P 131 0 = some (0, 26) := by kernel_rfl
@[simp] theorem hasZero134 : hasZero P 134 = true := by kernel_rfl
@[simp] theorem zeroL134 : zeroL P 134 = [(Value.int IntKind.i64 0), (Value.int IntKind.i64 0), (Value.int IntKind.i64 0), (Value.int IntKind.i64 0), (Value.int IntKind.i64 0), (Value.int IntKind.i64 0)] := by kernel_rfl
@[simp] theorem arrE134 : arrE P 134 = some (6, 3) := by kernel_rfl
@[simp] theorem tyOk136 : tyOk P 136 = true := by kernel_rfl
@[simp] theorem isAggB136 : isAggB P 136 = true := by kernel_rfl
@[simp] theorem cellsOf136 : P.cellsOf 136 = 6 := by kernel_rfl
@[simp] theorem bytesOf136 : P.bytesOf 136 = 56 := by kernel_rfl
@[simp] theorem hasZero136 : hasZero P 136 = true := by kernel_rfl
@[simp] theorem zeroL136 : zeroL P 136 = [(Value.int IntKind.u8 0), (Value.int IntKind.u64 0), (Value.int IntKind.i64 0), (Value.float FloatKind.f64 0), (Value.string ByteArray.empty), (Value.bool false)] := by kernel_rfl
@[simp] theorem field136n1 : fieldB P 136 1 = some (1, 127) := by kernel_rfl
@[simp] theorem field136n2 : fieldB P 136 2 = some (2, 2) := by kernel_rfl
@[simp] theorem field136n3 : fieldB P 136 3 = some (3, 58) := by kernel_rfl
@[simp] theorem field136n4 : fieldB P 136 4 = some (4, 9) := by kernel_rfl
@[simp] theorem field136n5 : fieldB P 136 5 = some (5, 4) := by kernel_rfl
@[simp] theorem tyOk144 : tyOk P 144 = true := by kernel_rfl
@[simp] theorem isAggB144 : isAggB P 144 = true := by kernel_rfl
@[simp] theorem cellsOf144 : P.cellsOf 144 = 5 := by kernel_rfl
@[simp] theorem hasZero144 : hasZero P 144 = true := by kernel_rfl
@[simp] theorem zeroL144 : zeroL P 144 = [(Value.bool false), (Value.bool false), (Value.bool false), (Value.bool false), (Value.bool false)] := by kernel_rfl
@[simp] theorem field144n0 : fieldB P 144 0 = some (0, 4) := by kernel_rfl
@[simp] theorem field144n1 : fieldB P 144 1 = some (1, 4) := by kernel_rfl
@[simp] theorem field144n2 : fieldB P 144 2 = some (2, 4) := by kernel_rfl
@[simp] theorem field144n3 : fieldB P 144 3 = some (3, 4) := by kernel_rfl
@[simp] theorem field144n4 : fieldB P 144 4 = some (4, 4) := by kernel_rfl
@[simp] theorem hasZero159 : hasZero P 159 = true := by kernel_rfl
@[simp] theorem zeroL159 : zeroL P 159 = [(Value.slice none 0 0), (Value.int IntKind.i64 0)] := by kernel_rfl
@[simp] theorem field159n0 : fieldB P 159 0 = some (0, 72) := by kernel_rfl
@[simp] theorem field159n1 : fieldB P 159 1 = some (1, 3) := by kernel_rfl
@[simp] theorem sliceE168 : sliceE P 168 = some 9 := by kernel_rfl
@[simp] theorem ld2 (h : i < (mm w b).length) : pLoad P 2 (pt b i) w = some (gt (mm w b) i, w) := pLoad_scal tyOk2 isAggB2 h
@[simp] theorem st2 (hv : v.oneCell' = true) (hf : fz w b = false) (hi : i < (mm w b).length) : pStore P 2 (pt b i) v w = some (wr w b ((mm w b).set i v)) := pStore_one tyOk2 cellsOf2 hv hf hi
@[simp] theorem cv2 {s : TypeId} (hs : tyOk P s = true) : pConv P s 2 (.int k x) w = some (.int .i64 (IntKind.wrap .i64 x), w) := pConv_int hs intK2
@[simp] theorem ld3 (h : i < (mm w b).length) : pLoad P 3 (pt b i) w = some (gt (mm w b) i, w) := pLoad_scal tyOk3 isAggB3 h
@[simp] theorem st3 (hv : v.oneCell' = true) (hf : fz w b = false) (hi : i < (mm w b).length) : pStore P 3 (pt b i) v w = some (wr w b ((mm w b).set i v)) := pStore_one tyOk3 cellsOf3 hv hf hi
@[simp] theorem cv3 {s : TypeId} (hs : tyOk P s = true) : pConv P s 3 (.int k x) w = some (.int .i64 (IntKind.wrap .i64 x), w) := pConv_int hs intK3
@[simp] theorem al4 : pAlloc P 4 w = some (pt (sz w) 0, nw w ([(Value.bool false)]) 4) := by rw [pAlloc_eq hasZero4, zeroL4]
@[simp] theorem ld4 (h : i < (mm w b).length) : pLoad P 4 (pt b i) w = some (gt (mm w b) i, w) := pLoad_scal tyOk4 isAggB4 h
@[simp] theorem st4 (hv : v.oneCell' = true) (hf : fz w b = false) (hi : i < (mm w b).length) : pStore P 4 (pt b i) v w = some (wr w b ((mm w b).set i v)) := pStore_one tyOk4 cellsOf4 hv hf hi
@[simp] theorem ld5 (h : i < (mm w b).length) : pLoad P 5 (pt b i) w = some (gt (mm w b) i, w) := pLoad_scal tyOk5 isAggB5 h
@[simp] theorem cv5 {s : TypeId} (hs : tyOk P s = true) : pConv P s 5 (.int k x) w = some (.int .u8 (IntKind.wrap .u8 x), w) := pConv_int hs intK5
@[simp] theorem al9 : pAlloc P 9 w = some (pt (sz w) 0, nw w ([(Value.string ByteArray.empty)]) 9) := by rw [pAlloc_eq hasZero9, zeroL9]
@[simp] theorem ld9 (h : i < (mm w b).length) : pLoad P 9 (pt b i) w = some (gt (mm w b) i, w) := pLoad_scal tyOk9 isAggB9 h
@[simp] theorem st9 (hv : v.oneCell' = true) (hf : fz w b = false) (hi : i < (mm w b).length) : pStore P 9 (pt b i) v w = some (wr w b ((mm w b).set i v)) := pStore_one tyOk9 cellsOf9 hv hf hi
@[simp] theorem ld22 (h : i < (mm w b).length) : pLoad P 22 (pt b i) w = some (gt (mm w b) i, w) := pLoad_scal tyOk22 isAggB22 h
@[simp] theorem ia22 (h0 : 0 ≤ j) (h1 : j < n) : pIndexAddr P 22 (sl b o n c) (.int k j) w = some (pt b (o + j.toNat * 9), w) := by
  have := pIndexAddr_slice (w := w) (b := b) (o := o) (c := c) (k := k) sliceE22 tyOk63 h0 h1; rwa [cellsOf63] at this
@[simp] theorem len22 {ty : TypeId} {a : Option Addr} : pBuiltin P .len #[22] ty [.slice a n c] w = some (i64 n, w) := len_slice sliceE22
@[simp] theorem bsl22 {ps : List (Nat × Value)} (hbig : n * 9 ≤ 2 ^ 24) (hp : ∀ p ∈ ps, p.2.cells.size = 9 ∧ p.1 < n) : pBuildSlice P 22 n ps w = some (sl (sz w) 0 n n,
    nw w (ps.foldl (fun l p => splice l (p.1 * 9) p.2.cells.toList) (List.replicate n ([(Value.string ByteArray.empty), (Value.int IntKind.i64 0), (Value.int IntKind.i64 0), (Value.int IntKind.i64 0), (Value.int IntKind.i64 0), (Value.float FloatKind.f64 0), (Value.int IntKind.i64 0), (Value.string ByteArray.empty), (Value.slice none 0 0)])).flatten) 63) := by
  have := pBuildSlice_eq (w := w) sliceE22 hasZero63 tyOk63 cellsOf63 (by rw [zeroL63]; rfl) hbig hp; rwa [zeroL63] at this
@[simp] theorem ld23 (h : i < (mm w b).length) : pLoad P 23 (pt b i) w = some (gt (mm w b) i, w) := pLoad_scal tyOk23 isAggB23 h
@[simp] theorem ia23 (h0 : 0 ≤ j) (h1 : j < n) : pIndexAddr P 23 (sl b o n c) (.int k j) w = some (pt b (o + j.toNat * 1), w) := by
  have := pIndexAddr_slice (w := w) (b := b) (o := o) (c := c) (k := k) sliceE23 tyOk3 h0 h1; rwa [cellsOf3] at this
@[simp] theorem len23 {ty : TypeId} {a : Option Addr} : pBuiltin P .len #[23] ty [.slice a n c] w = some (i64 n, w) := len_slice sliceE23
@[simp] theorem bsl23 {ps : List (Nat × Value)} (hbig : n * 1 ≤ 2 ^ 24) (hp : ∀ p ∈ ps, p.2.cells.size = 1 ∧ p.1 < n) : pBuildSlice P 23 n ps w = some (sl (sz w) 0 n n,
    nw w (ps.foldl (fun l p => splice l (p.1 * 1) p.2.cells.toList) (List.replicate n ([(Value.int IntKind.i64 0)])).flatten) 3) := by
  have := pBuildSlice_eq (w := w) sliceE23 hasZero3 tyOk3 cellsOf3 (by rw [zeroL3]; rfl) hbig hp; rwa [zeroL3] at this
@[simp] theorem ld25 (h : i + 2 ≤ (mm w b).length) : pLoad P 25 (pt b i) w = some (.agg (((mm w b).drop i).take 2).toArray, w) := by
  have := pLoad_agg (w := w) (b := b) (i := i) tyOk25 isAggB25 (by rw [cellsOf25]; exact h); rwa [cellsOf25] at this
@[simp] theorem fa25n0 : pFieldAddr P 25 (pt b i) 0 w = some (pt b (i + 0), w) := pFieldAddr_eq field25n0 tyOk3 (by rw [cellsOf3]; rfl)
@[simp] theorem fa25n1 : pFieldAddr P 25 (pt b i) 1 w = some (pt b (i + 1), w) := pFieldAddr_eq field25n1 tyOk23 (by rw [cellsOf23]; rfl)
@[simp] theorem ld26 (h : i < (mm w b).length) : pLoad P 26 (pt b i) w = some (gt (mm w b) i, w) := pLoad_scal tyOk26 isAggB26 h
@[simp] theorem al29 : pAlloc P 29 w = some (pt (sz w) 0, nw w ([(Value.int IntKind.i64 0), (Value.int IntKind.i64 0), (Value.int IntKind.i64 0), (Value.int IntKind.i64 0), (Value.int IntKind.i64 0), (Value.int IntKind.i64 0)]) 29) := by rw [pAlloc_eq hasZero29, zeroL29]
@[simp] theorem ld29 (h : i + 6 ≤ (mm w b).length) : pLoad P 29 (pt b i) w = some (.agg (((mm w b).drop i).take 6).toArray, w) := by
  have := pLoad_agg (w := w) (b := b) (i := i) tyOk29 isAggB29 (by rw [cellsOf29]; exact h); rwa [cellsOf29] at this
@[simp] theorem st29 (hs : a.size = 6) (hv : ∀ v ∈ a.toList, v.oneCell' = true) (hf : fz w b = false) (hi : i + 6 ≤ (mm w b).length) : pStore P 29 (pt b i) (.agg a) w = some (wr w b (splice (mm w b) i a.toList)) :=
  pStore_agg tyOk29 (by rw [cellsOf29, hs]) hv hf (by rw [hs]; exact hi)
@[simp] theorem bf29 {ps : List (Nat × Value)} (hp : ∀ p ∈ ps, p.1 < 6 ∧ p.2.oneCell' = true) : pBuild P 29 ps w = some (.agg (ps.foldl (fun l p => l.set p.1 p.2) ([(Value.int IntKind.i64 0), (Value.int IntKind.i64 0), (Value.int IntKind.i64 0), (Value.int IntKind.i64 0), (Value.int IntKind.i64 0), (Value.int IntKind.i64 0)])).toArray, w) := by
  have := pBuild_flat (w := w) (ps := ps) hasZero29 (by kernel_rfl) (by kernel_rfl) (by rw [zeroL29]; exact hp); rwa [zeroL29] at this
@[simp] theorem fa29n0 : pFieldAddr P 29 (pt b i) 0 w = some (pt b (i + 0), w) := pFieldAddr_eq field29n0 tyOk3 (by rw [cellsOf3]; rfl)
@[simp] theorem fa29n1 : pFieldAddr P 29 (pt b i) 1 w = some (pt b (i + 1), w) := pFieldAddr_eq field29n1 tyOk3 (by rw [cellsOf3]; rfl)
@[simp] theorem fa29n2 : pFieldAddr P 29 (pt b i) 2 w = some (pt b (i + 2), w) := pFieldAddr_eq field29n2 tyOk3 (by rw [cellsOf3]; rfl)
@[simp] theorem fa29n3 : pFieldAddr P 29 (pt b i) 3 w = some (pt b (i + 3), w) := pFieldAddr_eq field29n3 tyOk3 (by rw [cellsOf3]; rfl)
@[simp] theorem fa29n4 : pFieldAddr P 29 (pt b i) 4 w = some (pt b (i + 4), w) := pFieldAddr_eq field29n4 tyOk3 (by rw [cellsOf3]; rfl)
@[simp] theorem fa29n5 : pFieldAddr P 29 (pt b i) 5 w = some (pt b (i + 5), w) := pFieldAddr_eq field29n5 tyOk3 (by rw [cellsOf3]; rfl)
@[simp] theorem ld30 (h : i < (mm w b).length) : pLoad P 30 (pt b i) w = some (gt (mm w b) i, w) := pLoad_scal tyOk30 isAggB30 h
@[simp] theorem eqn30 {lit : Bool} {q : Option Addr} : pBin P .eql 30 lit (.pointer q) (.pointer none) w = some (.bool q.isNone, w) := eqNil und30
@[simp] theorem nen30 {lit : Bool} {q : Option Addr} : pBin P .neq 30 lit (.pointer q) (.pointer none) w = some (.bool q.isSome, w) := neNil und30
@[simp] theorem al32 : pAlloc P 32 w = some (pt (sz w) 0, nw w ([(Value.pointer none), (Value.int IntKind.i64 0)]) 32) := by rw [pAlloc_eq hasZero32, zeroL32]
@[simp] theorem ld32 (h : i + 2 ≤ (mm w b).length) : pLoad P 32 (pt b i) w = some (.agg (((mm w b).drop i).take 2).toArray, w) := by
  have := pLoad_agg (w := w) (b := b) (i := i) tyOk32 isAggB32 (by rw [cellsOf32]; exact h); rwa [cellsOf32] at this
@[simp] theorem st32 (hs : a.size = 2) (hv : ∀ v ∈ a.toList, v.oneCell' = true) (hf : fz w b = false) (hi : i + 2 ≤ (mm w b).length) : pStore P 32 (pt b i) (.agg a) w = some (wr w b (splice (mm w b) i a.toList)) :=
  pStore_agg tyOk32 (by rw [cellsOf32, hs]) hv hf (by rw [hs]; exact hi)
@[simp] theorem bf32 {ps : List (Nat × Value)} (hp : ∀ p ∈ ps, p.1 < 2 ∧ p.2.oneCell' = true) : pBuild P 32 ps w = some (.agg (ps.foldl (fun l p => l.set p.1 p.2) ([(Value.pointer none), (Value.int IntKind.i64 0)])).toArray, w) := by
  have := pBuild_flat (w := w) (ps := ps) hasZero32 (by kernel_rfl) (by kernel_rfl) (by rw [zeroL32]; exact hp); rwa [zeroL32] at this
@[simp] theorem fa32n0 : pFieldAddr P 32 (pt b i) 0 w = some (pt b (i + 0), w) := pFieldAddr_eq field32n0 tyOk30 (by rw [cellsOf30]; rfl)
@[simp] theorem fa32n1 : pFieldAddr P 32 (pt b i) 1 w = some (pt b (i + 1), w) := pFieldAddr_eq field32n1 tyOk3 (by rw [cellsOf3]; rfl)
@[simp] theorem eqn33 {lit : Bool} {q : Option Addr} : pBin P .eql 33 lit (.pointer q) (.pointer none) w = some (.bool q.isNone, w) := eqNil und33
@[simp] theorem ld38 (h : i < (mm w b).length) : pLoad P 38 (pt b i) w = some (gt (mm w b) i, w) := pLoad_scal tyOk38 isAggB38 h
@[simp] theorem ld42 (h : i + 2 ≤ (mm w b).length) : pLoad P 42 (pt b i) w = some (.agg (((mm w b).drop i).take 2).toArray, w) := by
  have := pLoad_agg (w := w) (b := b) (i := i) tyOk42 isAggB42 (by rw [cellsOf42]; exact h); rwa [cellsOf42] at this
@[simp] theorem bf42 {ps : List (Nat × Value)} (hp : ∀ p ∈ ps, p.1 < 2 ∧ p.2.oneCell' = true) : pBuild P 42 ps w = some (.agg (ps.foldl (fun l p => l.set p.1 p.2) ([(Value.int IntKind.i64 0), (Value.int IntKind.i64 0)])).toArray, w) := by
  have := pBuild_flat (w := w) (ps := ps) hasZero42 (by kernel_rfl) (by kernel_rfl) (by rw [zeroL42]; exact hp); rwa [zeroL42] at this
@[simp] theorem fa42n0 : pFieldAddr P 42 (pt b i) 0 w = some (pt b (i + 0), w) := pFieldAddr_eq field42n0 tyOk3 (by rw [cellsOf3]; rfl)
@[simp] theorem fa42n1 : pFieldAddr P 42 (pt b i) 1 w = some (pt b (i + 1), w) := pFieldAddr_eq field42n1 tyOk3 (by rw [cellsOf3]; rfl)
@[simp] theorem al43 : pAlloc P 43 w = some (pt (sz w) 0, nw w ([(Value.int IntKind.i64 0), (Value.int IntKind.i64 0), (Value.int IntKind.i64 0), (Value.int IntKind.i64 0)]) 43) := by rw [pAlloc_eq hasZero43, zeroL43]
@[simp] theorem st43 (hs : a.size = 4) (hv : ∀ v ∈ a.toList, v.oneCell' = true) (hf : fz w b = false) (hi : i + 4 ≤ (mm w b).length) : pStore P 43 (pt b i) (.agg a) w = some (wr w b (splice (mm w b) i a.toList)) :=
  pStore_agg tyOk43 (by rw [cellsOf43, hs]) hv hf (by rw [hs]; exact hi)
@[simp] theorem ia43 (h0 : 0 ≤ j) (h1 : j < 2) : pIndexAddr P 43 (pt b o) (.int k j) w = some (pt b (o + j.toNat * 2), w) := by
  have := pIndexAddr_arr (w := w) (b := b) (o := o) (k := k) arrE43 tyOk42 h0 h1; rwa [cellsOf42] at this
@[simp] theorem al54 : pAlloc P 54 w = some (pt (sz w) 0, nw w ([(Value.slice none 0 0), (Value.int IntKind.i64 0)]) 54) := by rw [pAlloc_eq hasZero54, zeroL54]
@[simp] theorem ld54 (h : i + 2 ≤ (mm w b).length) : pLoad P 54 (pt b i) w = some (.agg (((mm w b).drop i).take 2).toArray, w) := by
  have := pLoad_agg (w := w) (b := b) (i := i) tyOk54 isAggB54 (by rw [cellsOf54]; exact h); rwa [cellsOf54] at this
@[simp] theorem st54 (hs : a.size = 2) (hv : ∀ v ∈ a.toList, v.oneCell' = true) (hf : fz w b = false) (hi : i + 2 ≤ (mm w b).length) : pStore P 54 (pt b i) (.agg a) w = some (wr w b (splice (mm w b) i a.toList)) :=
  pStore_agg tyOk54 (by rw [cellsOf54, hs]) hv hf (by rw [hs]; exact hi)
@[simp] theorem bf54 {ps : List (Nat × Value)} (hp : ∀ p ∈ ps, p.1 < 2 ∧ p.2.oneCell' = true) : pBuild P 54 ps w = some (.agg (ps.foldl (fun l p => l.set p.1 p.2) ([(Value.slice none 0 0), (Value.int IntKind.i64 0)])).toArray, w) := by
  have := pBuild_flat (w := w) (ps := ps) hasZero54 (by kernel_rfl) (by kernel_rfl) (by rw [zeroL54]; exact hp); rwa [zeroL54] at this
@[simp] theorem fa54n0 : pFieldAddr P 54 (pt b i) 0 w = some (pt b (i + 0), w) := pFieldAddr_eq field54n0 tyOk22 (by rw [cellsOf22]; rfl)
@[simp] theorem fa54n1 : pFieldAddr P 54 (pt b i) 1 w = some (pt b (i + 1), w) := pFieldAddr_eq field54n1 tyOk3 (by rw [cellsOf3]; rfl)
@[simp] theorem ld58 (h : i < (mm w b).length) : pLoad P 58 (pt b i) w = some (gt (mm w b) i, w) := pLoad_scal tyOk58 isAggB58 h
@[simp] theorem st58 (hv : v.oneCell' = true) (hf : fz w b = false) (hi : i < (mm w b).length) : pStore P 58 (pt b i) v w = some (wr w b ((mm w b).set i v)) := pStore_one tyOk58 cellsOf58 hv hf hi
@[simp] theorem ld59 (h : i < (mm w b).length) : pLoad P 59 (pt b i) w = some (gt (mm w b) i, w) := pLoad_scal tyOk59 isAggB59 h
@[simp] theorem st59 (hv : v.oneCell' = true) (hf : fz w b = false) (hi : i < (mm w b).length) : pStore P 59 (pt b i) v w = some (wr w b ((mm w b).set i v)) := pStore_one tyOk59 cellsOf59 hv hf hi
@[simp] theorem ia59 (h0 : 0 ≤ j) (h1 : j < n) : pIndexAddr P 59 (sl b o n c) (.int k j) w = some (pt b (o + j.toNat * 2), w) := by
  have := pIndexAddr_slice (w := w) (b := b) (o := o) (c := c) (k := k) sliceE59 tyOk105 h0 h1; rwa [cellsOf105] at this
@[simp] theorem len59 {ty : TypeId} {a : Option Addr} : pBuiltin P .len #[59] ty [.slice a n c] w = some (i64 n, w) := len_slice sliceE59
@[simp] theorem bsl59 {ps : List (Nat × Value)} (hbig : n * 2 ≤ 2 ^ 24) (hp : ∀ p ∈ ps, p.2.cells.size = 2 ∧ p.1 < n) : pBuildSlice P 59 n ps w = some (sl (sz w) 0 n n,
    nw w (ps.foldl (fun l p => splice l (p.1 * 2) p.2.cells.toList) (List.replicate n ([(Value.float FloatKind.f64 0), (Value.string ByteArray.empty)])).flatten) 105) := by
  have := pBuildSlice_eq (w := w) sliceE59 hasZero105 tyOk105 cellsOf105 (by rw [zeroL105]; rfl) hbig hp; rwa [zeroL105] at this
@[simp] theorem al61 : pAlloc P 61 w = some (pt (sz w) 0, nw w ([(Value.int IntKind.i64 0), (Value.int IntKind.i64 0), (Value.int IntKind.i64 0), (Value.int IntKind.i64 0), (Value.float FloatKind.f64 0), (Value.int IntKind.i64 0), (Value.string ByteArray.empty), (Value.slice none 0 0)]) 61) := by rw [pAlloc_eq hasZero61, zeroL61]
@[simp] theorem ld61 (h : i + 8 ≤ (mm w b).length) : pLoad P 61 (pt b i) w = some (.agg (((mm w b).drop i).take 8).toArray, w) := by
  have := pLoad_agg (w := w) (b := b) (i := i) tyOk61 isAggB61 (by rw [cellsOf61]; exact h); rwa [cellsOf61] at this
@[simp] theorem st61 (hs : a.size = 8) (hv : ∀ v ∈ a.toList, v.oneCell' = true) (hf : fz w b = false) (hi : i + 8 ≤ (mm w b).length) : pStore P 61 (pt b i) (.agg a) w = some (wr w b (splice (mm w b) i a.toList)) :=
  pStore_agg tyOk61 (by rw [cellsOf61, hs]) hv hf (by rw [hs]; exact hi)
@[simp] theorem bf61 {ps : List (Nat × Value)} (hp : ∀ p ∈ ps, p.1 < 8 ∧ p.2.oneCell' = true) : pBuild P 61 ps w = some (.agg (ps.foldl (fun l p => l.set p.1 p.2) ([(Value.int IntKind.i64 0), (Value.int IntKind.i64 0), (Value.int IntKind.i64 0), (Value.int IntKind.i64 0), (Value.float FloatKind.f64 0), (Value.int IntKind.i64 0), (Value.string ByteArray.empty), (Value.slice none 0 0)])).toArray, w) := by
  have := pBuild_flat (w := w) (ps := ps) hasZero61 (by kernel_rfl) (by kernel_rfl) (by rw [zeroL61]; exact hp); rwa [zeroL61] at this
@[simp] theorem fa61n0 : pFieldAddr P 61 (pt b i) 0 w = some (pt b (i + 0), w) := pFieldAddr_eq field61n0 tyOk3 (by rw [cellsOf3]; rfl)
@[simp] theorem fa61n1 : pFieldAddr P 61 (pt b i) 1 w = some (pt b (i + 1), w) := pFieldAddr_eq field61n1 tyOk2 (by rw [cellsOf2]; rfl)
@[simp] theorem fa61n2 : pFieldAddr P 61 (pt b i) 2 w = some (pt b (i + 2), w) := pFieldAddr_eq field61n2 tyOk2 (by rw [cellsOf2]; rfl)
@[simp] theorem fa61n3 : pFieldAddr P 61 (pt b i) 3 w = some (pt b (i + 3), w) := pFieldAddr_eq field61n3 tyOk2 (by rw [cellsOf2]; rfl)
@[simp] theorem fa61n4 : pFieldAddr P 61 (pt b i) 4 w = some (pt b (i + 4), w) := pFieldAddr_eq field61n4 tyOk58 (by rw [cellsOf58]; rfl)
@[simp] theorem fa61n5 : pFieldAddr P 61 (pt b i) 5 w = some (pt b (i + 5), w) := pFieldAddr_eq field61n5 tyOk3 (by rw [cellsOf3]; rfl)
@[simp] theorem fa61n6 : pFieldAddr P 61 (pt b i) 6 w = some (pt b (i + 6), w) := pFieldAddr_eq field61n6 tyOk9 (by rw [cellsOf9]; rfl)
@[simp] theorem fa61n7 : pFieldAddr P 61 (pt b i) 7 w = some (pt b (i + 7), w) := pFieldAddr_eq field61n7 tyOk59 (by rw [cellsOf59]; rfl)
@[simp] theorem al63 : pAlloc P 63 w = some (pt (sz w) 0, nw w ([(Value.string ByteArray.empty), (Value.int IntKind.i64 0), (Value.int IntKind.i64 0), (Value.int IntKind.i64 0), (Value.int IntKind.i64 0), (Value.float FloatKind.f64 0), (Value.int IntKind.i64 0), (Value.string ByteArray.empty), (Value.slice none 0 0)]) 63) := by rw [pAlloc_eq hasZero63, zeroL63]
@[simp] theorem ld63 (h : i + 9 ≤ (mm w b).length) : pLoad P 63 (pt b i) w = some (.agg (((mm w b).drop i).take 9).toArray, w) := by
  have := pLoad_agg (w := w) (b := b) (i := i) tyOk63 isAggB63 (by rw [cellsOf63]; exact h); rwa [cellsOf63] at this
@[simp] theorem st63 (hs : a.size = 9) (hv : ∀ v ∈ a.toList, v.oneCell' = true) (hf : fz w b = false) (hi : i + 9 ≤ (mm w b).length) : pStore P 63 (pt b i) (.agg a) w = some (wr w b (splice (mm w b) i a.toList)) :=
  pStore_agg tyOk63 (by rw [cellsOf63, hs]) hv hf (by rw [hs]; exact hi)
@[simp] theorem fa63n0 : pFieldAddr P 63 (pt b i) 0 w = some (pt b (i + 0), w) := pFieldAddr_eq field63n0 tyOk9 (by rw [cellsOf9]; rfl)
@[simp] theorem fa63n1 : pFieldAddr P 63 (pt b i) 1 w = some (pt b (i + 1), w) := pFieldAddr_eq field63n1 tyOk61 (by rw [cellsOf61]; rfl)
@[simp] theorem ld72 (h : i < (mm w b).length) : pLoad P 72 (pt b i) w = some (gt (mm w b) i, w) := pLoad_scal tyOk72 isAggB72 h
@[simp] theorem st72 (hv : v.oneCell' = true) (hf : fz w b = false) (hi : i < (mm w b).length) : pStore P 72 (pt b i) v w = some (wr w b ((mm w b).set i v)) := pStore_one tyOk72 cellsOf72 hv hf hi
@[simp] theorem ia72 (h0 : 0 ≤ j) (h1 : j < n) : pIndexAddr P 72 (sl b o n c) (.int k j) w = some (pt b (o + j.toNat * 1), w) := by
  have := pIndexAddr_slice (w := w) (b := b) (o := o) (c := c) (k := k) sliceE72 tyOk5 h0 h1; rwa [cellsOf5] at this
@[simp] theorem len72 {ty : TypeId} {a : Option Addr} : pBuiltin P .len #[72] ty [.slice a n c] w = some (i64 n, w) := len_slice sliceE72
@[simp] theorem slB72 {k' : IntKind} {y : Int} (h0 : 0 ≤ x) (h1 : x ≤ y) (h2 : y ≤ (c : Int)) (hnc : n ≤ c) : pSlice P 72 (sl b o n c) (some (.int k x)) (some (.int k' y)) none w = some (.slice (some ⟨b, if c = x.toNat then o else o + x.toNat * 1, none⟩) (y.toNat - x.toNat) (c - x.toNat), w) := by
  have := pSlice_slice (P := P) (t := 72) (w := w) (b := b) (o := o) (lo := (some (.int k x))) (hi := (some (.int k' y))) sliceE72 tyOk5 rfl rfl h0 h1 h2 hnc; simpa [bLo, bHi] using this
@[simp] theorem bsl72 {ps : List (Nat × Value)} (hbig : n * 1 ≤ 2 ^ 24) (hp : ∀ p ∈ ps, p.2.cells.size = 1 ∧ p.1 < n) : pBuildSlice P 72 n ps w = some (sl (sz w) 0 n n,
    nw w (ps.foldl (fun l p => splice l (p.1 * 1) p.2.cells.toList) (List.replicate n ([(Value.int IntKind.u8 0)])).flatten) 5) := by
  have := pBuildSlice_eq (w := w) sliceE72 hasZero5 tyOk5 cellsOf5 (by rw [zeroL5]; rfl) hbig hp; rwa [zeroL5] at this
@[simp] theorem ld74 (h : i < (mm w b).length) : pLoad P 74 (pt b i) w = some (gt (mm w b) i, w) := pLoad_scal tyOk74 isAggB74 h
@[simp] theorem ia74 (h0 : 0 ≤ j) (h1 : j < n) : pIndexAddr P 74 (sl b o n c) (.int k j) w = some (pt b (o + j.toNat * 64), w) := by
  have := pIndexAddr_slice (w := w) (b := b) (o := o) (c := c) (k := k) sliceE74 tyOk90 h0 h1; rwa [cellsOf90] at this
@[simp] theorem len74 {ty : TypeId} {a : Option Addr} : pBuiltin P .len #[74] ty [.slice a n c] w = some (i64 n, w) := len_slice sliceE74
@[simp] theorem ld75 (h : i < (mm w b).length) : pLoad P 75 (pt b i) w = some (gt (mm w b) i, w) := pLoad_scal tyOk75 isAggB75 h
@[simp] theorem st75 (hv : v.oneCell' = true) (hf : fz w b = false) (hi : i < (mm w b).length) : pStore P 75 (pt b i) v w = some (wr w b ((mm w b).set i v)) := pStore_one tyOk75 cellsOf75 hv hf hi
@[simp] theorem ia75 (h0 : 0 ≤ j) (h1 : j < n) : pIndexAddr P 75 (sl b o n c) (.int k j) w = some (pt b (o + j.toNat * 65), w) := by
  have := pIndexAddr_slice (w := w) (b := b) (o := o) (c := c) (k := k) sliceE75 tyOk96 h0 h1; rwa [cellsOf96] at this
@[simp] theorem len75 {ty : TypeId} {a : Option Addr} : pBuiltin P .len #[75] ty [.slice a n c] w = some (i64 n, w) := len_slice sliceE75
@[simp] theorem bsl75 {ps : List (Nat × Value)} (hbig : n * 65 ≤ 2 ^ 24) (hp : ∀ p ∈ ps, p.2.cells.size = 65 ∧ p.1 < n) : pBuildSlice P 75 n ps w = some (sl (sz w) 0 n n,
    nw w (ps.foldl (fun l p => splice l (p.1 * 65) p.2.cells.toList) (List.replicate n ((Value.int IntKind.i64 0) :: bs (zb 64))).flatten) 96) := by
  have := pBuildSlice_eq (w := w) sliceE75 hasZero96 tyOk96 cellsOf96 (by rw [zeroL96]; rfl) hbig hp; rwa [zeroL96] at this
@[simp] theorem bf77 {ps : List (Nat × Value)} (hp : ∀ p ∈ ps, p.1 < 5 ∧ p.2.oneCell' = true) : pBuild P 77 ps w = some (.agg (ps.foldl (fun l p => l.set p.1 p.2) ([(Value.slice none 0 0), (Value.slice none 0 0), (Value.int IntKind.i64 0), (Value.bool false), (Value.int IntKind.i64 0)])).toArray, w) := by
  have := pBuild_flat (w := w) (ps := ps) hasZero77 (by kernel_rfl) (by kernel_rfl) (by rw [zeroL77]; exact hp); rwa [zeroL77] at this
@[simp] theorem fa77n0 : pFieldAddr P 77 (pt b i) 0 w = some (pt b (i + 0), w) := pFieldAddr_eq field77n0 tyOk74 (by rw [cellsOf74]; rfl)
@[simp] theorem fa77n1 : pFieldAddr P 77 (pt b i) 1 w = some (pt b (i + 1), w) := pFieldAddr_eq field77n1 tyOk75 (by rw [cellsOf75]; rfl)
@[simp] theorem fa77n2 : pFieldAddr P 77 (pt b i) 2 w = some (pt b (i + 2), w) := pFieldAddr_eq field77n2 tyOk3 (by rw [cellsOf3]; rfl)
@[simp] theorem fa77n3 : pFieldAddr P 77 (pt b i) 3 w = some (pt b (i + 3), w) := pFieldAddr_eq field77n3 tyOk4 (by rw [cellsOf4]; rfl)
@[simp] theorem fa77n4 : pFieldAddr P 77 (pt b i) 4 w = some (pt b (i + 4), w) := pFieldAddr_eq field77n4 tyOk3 (by rw [cellsOf3]; rfl)
@[simp] theorem ia78 (h0 : 0 ≤ j) (h1 : j < n) : pIndexAddr P 78 (sl b o n c) (.int k j) w = some (pt b (o + j.toNat * 1), w) := by
  have := pIndexAddr_slice (w := w) (b := b) (o := o) (c := c) (k := k) sliceE78 tyOk72 h0 h1; rwa [cellsOf72] at this
@[simp] theorem len78 {ty : TypeId} {a : Option Addr} : pBuiltin P .len #[78] ty [.slice a n c] w = some (i64 n, w) := len_slice sliceE78
@[simp] theorem bsl78 {ps : List (Nat × Value)} (hbig : n * 1 ≤ 2 ^ 24) (hp : ∀ p ∈ ps, p.2.cells.size = 1 ∧ p.1 < n) : pBuildSlice P 78 n ps w = some (sl (sz w) 0 n n,
    nw w (ps.foldl (fun l p => splice l (p.1 * 1) p.2.cells.toList) (List.replicate n ([(Value.slice none 0 0)])).flatten) 72) := by
  have := pBuildSlice_eq (w := w) sliceE78 hasZero72 tyOk72 cellsOf72 (by rw [zeroL72]; rfl) hbig hp; rwa [zeroL72] at this
@[simp] theorem al90 : pAlloc P 90 w = some (pt (sz w) 0, nw w (bs (zb 64)) 90) := by rw [pAlloc_eq hasZero90, zeroL90]
@[simp] theorem ld90 (h : i + 64 ≤ (mm w b).length) : pLoad P 90 (pt b i) w = some (.agg (((mm w b).drop i).take 64).toArray, w) := by
  have := pLoad_agg (w := w) (b := b) (i := i) tyOk90 isAggB90 (by rw [cellsOf90]; exact h); rwa [cellsOf90] at this
@[simp] theorem st90 (hs : a.size = 64) (hv : ∀ v ∈ a.toList, v.oneCell' = true) (hf : fz w b = false) (hi : i + 64 ≤ (mm w b).length) : pStore P 90 (pt b i) (.agg a) w = some (wr w b (splice (mm w b) i a.toList)) :=
  pStore_agg tyOk90 (by rw [cellsOf90, hs]) hv hf (by rw [hs]; exact hi)
@[simp] theorem ia90 (h0 : 0 ≤ j) (h1 : j < 64) : pIndexAddr P 90 (pt b o) (.int k j) w = some (pt b (o + j.toNat * 1), w) := by
  have := pIndexAddr_arr (w := w) (b := b) (o := o) (k := k) arrE90 tyOk5 h0 h1; rwa [cellsOf5] at this
@[simp] theorem slL90 (h0 : 0 ≤ x) (h1 : x ≤ (64 : Int))  : pSlice P 90 (pt b o) (some (.int k x)) none none w = some (.slice (some ⟨b, if 64 = x.toNat then o else o + x.toNat * 1, none⟩) (64 - x.toNat) (64 - x.toNat), w) := by
  have := pSlice_arr (P := P) (t := 90) (w := w) (b := b) (o := o) (lo := (some (.int k x))) (hi := none) arrE90 tyOk5 rfl rfl h0 h1 (by simp [bHi]) ; simpa [bLo, bHi] using this
@[simp] theorem slH90 {k' : IntKind} {y : Int} (h0 : 0 ≤ y) (h1 : y ≤ (64 : Int))  : pSlice P 90 (pt b o) none (some (.int k' y)) none w = some (.slice (some ⟨b, o, none⟩) (y.toNat) (64), w) := by
  have := pSlice_arr (P := P) (t := 90) (w := w) (b := b) (o := o) (lo := none) (hi := (some (.int k' y))) arrE90 tyOk5 rfl rfl (Int.le_refl 0) h0 h1 ; simpa [bLo, bHi] using this
@[simp] theorem slB90 {k' : IntKind} {y : Int} (h0 : 0 ≤ x) (h1 : x ≤ y) (h2 : y ≤ (64 : Int))  : pSlice P 90 (pt b o) (some (.int k x)) (some (.int k' y)) none w = some (.slice (some ⟨b, if 64 = x.toNat then o else o + x.toNat * 1, none⟩) (y.toNat - x.toNat) (64 - x.toNat), w) := by
  have := pSlice_arr (P := P) (t := 90) (w := w) (b := b) (o := o) (lo := (some (.int k x))) (hi := (some (.int k' y))) arrE90 tyOk5 rfl rfl h0 h1 h2 ; simpa [bLo, bHi] using this
@[simp] theorem bd90 {ps : List (Nat × Value)} (hp : ∀ p ∈ ps, p.1 < 64 ∧ p.2.oneCell' = true) : pBuild P 90 ps w = some (.agg (ps.foldl (fun l p => l.set p.1 p.2) (bs (zb 64))).toArray, w) := by
  have := pBuild_arr (w := w) hasZero90 arrE90 tyOk5 cellsOf5 (n := 64) (by rw [zeroL90]; rfl) hp; rwa [zeroL90] at this
@[simp] theorem eqs90 {lit : Bool} {p q : List UInt8} (h1 : p.length = 64) (h2 : q.length = 64) : pBin P .eql 90 lit (sec p) (sec q) w = some (.bool (decide (p = q)), w) := eql_sec arrE90 intK5 cellsOf5 tyOk5 isAggB5 eqg90 h1 h2
@[simp] theorem al96 : pAlloc P 96 w = some (pt (sz w) 0, nw w ((Value.int IntKind.i64 0) :: bs (zb 64)) 96) := by rw [pAlloc_eq hasZero96, zeroL96]
@[simp] theorem ld96 (h : i + 65 ≤ (mm w b).length) : pLoad P 96 (pt b i) w = some (.agg (((mm w b).drop i).take 65).toArray, w) := by
  have := pLoad_agg (w := w) (b := b) (i := i) tyOk96 isAggB96 (by rw [cellsOf96]; exact h); rwa [cellsOf96] at this
@[simp] theorem st96 (hs : a.size = 65) (hv : ∀ v ∈ a.toList, v.oneCell' = true) (hf : fz w b = false) (hi : i + 65 ≤ (mm w b).length) : pStore P 96 (pt b i) (.agg a) w = some (wr w b (splice (mm w b) i a.toList)) :=
  pStore_agg tyOk96 (by rw [cellsOf96, hs]) hv hf (by rw [hs]; exact hi)
@[simp] theorem fa96n0 : pFieldAddr P 96 (pt b i) 0 w = some (pt b (i + 0), w) := pFieldAddr_eq field96n0 tyOk3 (by rw [cellsOf3]; rfl)
@[simp] theorem fa96n1 : pFieldAddr P 96 (pt b i) 1 w = some (pt b (i + 1), w) := pFieldAddr_eq field96n1 tyOk90 (by rw [cellsOf90]; rfl)
@[simp] theorem al105 : pAlloc P 105 w = some (pt (sz w) 0, nw w ([(Value.float FloatKind.f64 0), (Value.string ByteArray.empty)]) 105) := by rw [pAlloc_eq hasZero105, zeroL105]
@[simp] theorem ld105 (h : i + 2 ≤ (mm w b).length) : pLoad P 105 (pt b i) w = some (.agg (((mm w b).drop i).take 2).toArray, w) := by
  have := pLoad_agg (w := w) (b := b) (i := i) tyOk105 isAggB105 (by rw [cellsOf105]; exact h); rwa [cellsOf105] at this
@[simp] theorem st105 (hs : a.size = 2) (hv : ∀ v ∈ a.toList, v.oneCell' = true) (hf : fz w b = false) (hi : i + 2 ≤ (mm w b).length) : pStore P 105 (pt b i) (.agg a) w = some (wr w b (splice (mm w b) i a.toList)) :=
  pStore_agg tyOk105 (by rw [cellsOf105, hs]) hv hf (by rw [hs]; exact hi)
@[simp] theorem fa105n0 : pFieldAddr P 105 (pt b i) 0 w = some (pt b (i + 0), w) := pFieldAddr_eq field105n0 tyOk58 (by rw [cellsOf58]; rfl)
@[simp] theorem fa105n1 : pFieldAddr P 105 (pt b i) 1 w = some (pt b (i + 1), w) := pFieldAddr_eq field105n1 tyOk9 (by rw [cellsOf9]; rfl)
@[simp] theorem fa113n0 : pFieldAddr P 113 (pt b i) 0 w = some (pt b (i + 0), w) := pFieldAddr_eq field113n0 tyOk9 (by rw [cellsOf9]; rfl)
@[simp] theorem fa113n1 : pFieldAddr P 113 (pt b i) 1 w = some (pt b (i + 1), w) := pFieldAddr_eq field113n1 tyOk61 (by rw [cellsOf61]; rfl)
@[simp] theorem fa113n2 : pFieldAddr P 113 (pt b i) 2 w = some (pt b (i + 9), w) := pFieldAddr_eq field113n2 tyOk30 (by rw [cellsOf30]; rfl)
@[simp] theorem fa113n3 : pFieldAddr P 113 (pt b i) 3 w = some (pt b (i + 10), w) := pFieldAddr_eq field113n3 tyOk30 (by rw [cellsOf30]; rfl)
@[simp] theorem fa113n4 : pFieldAddr P 113 (pt b i) 4 w = some (pt b (i + 11), w) := pFieldAddr_eq field113n4 tyOk3 (by rw [cellsOf3]; rfl)
@[simp] theorem al115 : pAlloc P 115 w = some (pt (sz w) 0, nw w ([(Value.slice none 0 0)]) 115) := by rw [pAlloc_eq hasZero115, zeroL115]
@[simp] theorem fa115n0 : pFieldAddr P 115 (pt b i) 0 w = some (pt b (i + 0), w) := pFieldAddr_eq field115n0 tyOk72 (by rw [cellsOf72]; rfl)
@[simp] theorem fa124n0 : pFieldAddr P 124 (pt b i) 0 w = some (pt b (i + 0), w) := pFieldAddr_eq field124n0 tyOk38 (by rw [cellsOf38]; rfl)
@[simp] theorem fa124n1 : pFieldAddr P 124 (pt b i) 1 w = some (pt b (i + 1), w) := pFieldAddr_eq field124n1 tyOk42 (by rw [cellsOf42]; rfl)
@[simp] theorem fa124n2 : pFieldAddr P 124 (pt b i) 2 w = some (pt b (i + 3), w) := pFieldAddr_eq field124n2 tyOk3 (by rw [cellsOf3]; rfl)
@[simp] theorem ld127 (h : i < (mm w b).length) : pLoad P 127 (pt b i) w = some (gt (mm w b) i, w) := pLoad_scal tyOk127 isAggB127 h
@[simp] theorem st127 (hv : v.oneCell' = true) (hf : fz w b = false) (hi : i < (mm w b).length) : pStore P 127 (pt b i) v w = some (wr w b ((mm w b).set i v)) := pStore_one tyOk127 cellsOf127 hv hf hi
@[simp] theorem cv127 {s : TypeId} (hs : tyOk P s = true) : pConv P s 127 (.int k x) w = some (.int .u64 (IntKind.wrap .u64 x), w) := pConv_int hs intK127
@[simp] theorem al129 : pAlloc P 129 w = some (pt (sz w) 0, nw w ([(Value.slice none 0 0)]) 129) := by rw [pAlloc_eq hasZero129, zeroL129]
@[simp] theorem ld129 (h : i < (mm w b).length) : pLoad P 129 (pt b i) w = some (gt (mm w b) i, w) := pLoad_scal tyOk129 isAggB129 h
@[simp] theorem st129 (hv : v.oneCell' = true) (hf : fz w b = false) (hi : i < (mm w b).length) : pStore P 129 (pt b i) v w = some (wr w b ((mm w b).set i v)) := pStore_one tyOk129 cellsOf129 hv hf hi
@[simp] theorem ia129 (h0 : 0 ≤ j) (h1 : j < n) : pIndexAddr P 129 (sl b o n c) (.int k j) w = some (pt b (o + j.toNat * 6), w) := by
  have := pIndexAddr_slice (w := w) (b := b) (o := o) (c := c) (k := k) sliceE129 tyOk136 h0 h1; rwa [cellsOf136] at this
@[simp] theorem len129 {ty : TypeId} {a : Option Addr} : pBuiltin P .len #[129] ty [.slice a n c] w = some (i64 n, w) := len_slice sliceE129
@[simp] theorem bsl129 {ps : List (Nat × Value)} (hbig : n * 6 ≤ 2 ^ 24) (hp : ∀ p ∈ ps, p.2.cells.size = 6 ∧ p.1 < n) : pBuildSlice P 129 n ps w = some (sl (sz w) 0 n n,
    nw w (ps.foldl (fun l p => splice l (p.1 * 6) p.2.cells.toList) (List.replicate n ([(Value.int IntKind.u8 0), (Value.int IntKind.u64 0), (Value.int IntKind.i64 0), (Value.float FloatKind.f64 0), (Value.string ByteArray.empty), (Value.bool false)])).flatten) 136) := by
  have := pBuildSlice_eq (w := w) sliceE129 hasZero136 tyOk136 cellsOf136 (by rw [zeroL136]; rfl) hbig hp; rwa [zeroL136] at this
@[simp] theorem al131 : pAlloc P 131 w = some (pt (sz w) 0, nw w ([(Value.int IntKind.i64 0), (Value.int IntKind.i64 0)]) 131) := by rw [pAlloc_eq hasZero131, zeroL131]
@[simp] theorem ld131 (h : i + 2 ≤ (mm w b).length) : pLoad P 131 (pt b i) w = some (.agg (((mm w b).drop i).take 2).toArray, w) := by
  have := pLoad_agg (w := w) (b := b) (i := i) tyOk131 isAggB131 (by rw [cellsOf131]; exact h); rwa [cellsOf131] at this
@[simp] theorem st131 (hs : a.size = 2) (hv : ∀ v ∈ a.toList, v.oneCell' = true) (hf : fz w b = false) (hi : i + 2 ≤ (mm w b).length) : pStore P 131 (pt b i) (.agg a) w = some (wr w b (splice (mm w b) i a.toList)) :=
  pStore_agg tyOk131 (by rw [cellsOf131, hs]) hv hf (by rw [hs]; exact hi)
@[simp] theorem bf131 {ps : List (Nat × Value)} (hp : ∀ p ∈ ps, p.1 < 2 ∧ p.2.oneCell' = true) : pBuild P 131 ps w = some (.agg (ps.foldl (fun l p => l.set p.1 p.2) ([(Value.int IntKind.i64 0), (Value.int IntKind.i64 0)])).toArray, w) := by
  have := pBuild_flat (w := w) (ps := ps) hasZero131 (by kernel_rfl) (by kernel_rfl) (by rw [zeroL131]; exact hp); rwa [zeroL131] at this
@[simp] theorem fa131n0 : pFieldAddr P 131 (pt b i) 0 w = some (pt b (i + 0), w) := pFieldAddr_eq field131n0 tyOk26 (by rw [cellsOf26]; rfl)
@[simp] theorem al134 : pAlloc P 134 w = some (pt (sz w) 0, nw w ([(Value.int IntKind.i64 0), (Value.int IntKind.i64 0), (Value.int IntKind.i64 0), (Value.int IntKind.i64 0), (Value.int IntKind.i64 0), (Value.int IntKind.i64 0)]) 134) := by rw [pAlloc_eq hasZero134, zeroL134]
@[simp] theorem ia134 (h0 : 0 ≤ j) (h1 : j < 6) : pIndexAddr P 134 (pt b o) (.int k j) w = some (pt b (o + j.toNat * 1), w) := by
  have := pIndexAddr_arr (w := w) (b := b) (o := o) (k := k) arrE134 tyOk3 h0 h1; rwa [cellsOf3] at this
@[simp] theorem al136 : pAlloc P 136 w = some (pt (sz w) 0, nw w ([(Value.int IntKind.u8 0), (Value.int IntKind.u64 0), (Value.int IntKind.i64 0), (Value.float FloatKind.f64 0), (Value.string ByteArray.empty), (Value.bool false)]) 136) := by rw [pAlloc_eq hasZero136, zeroL136]
@[simp] theorem ld136 (h : i + 6 ≤ (mm w b).length) : pLoad P 136 (pt b i) w = some (.agg (((mm w b).drop i).take 6).toArray, w) := by
  have := pLoad_agg (w := w) (b := b) (i := i) tyOk136 isAggB136 (by rw [cellsOf136]; exact h); rwa [cellsOf136] at this
@[simp] theorem st136 (hs : a.size = 6) (hv : ∀ v ∈ a.toList, v.oneCell' = true) (hf : fz w b = false) (hi : i + 6 ≤ (mm w b).length) : pStore P 136 (pt b i) (.agg a) w = some (wr w b (splice (mm w b) i a.toList)) :=
  pStore_agg tyOk136 (by rw [cellsOf136, hs]) hv hf (by rw [hs]; exact hi)
@[simp] theorem bf136 {ps : List (Nat × Value)} (hp : ∀ p ∈ ps, p.1 < 6 ∧ p.2.oneCell' = true) : pBuild P 136 ps w = some (.agg (ps.foldl (fun l p => l.set p.1 p.2) ([(Value.int IntKind.u8 0), (Value.int IntKind.u64 0), (Value.int IntKind.i64 0), (Value.float FloatKind.f64 0), (Value.string ByteArray.empty), (Value.bool false)])).toArray, w) := by
  have := pBuild_flat (w := w) (ps := ps) hasZero136 (by kernel_rfl) (by kernel_rfl) (by rw [zeroL136]; exact hp); rwa [zeroL136] at this
@[simp] theorem fa136n1 : pFieldAddr P 136 (pt b i) 1 w = some (pt b (i + 1), w) := pFieldAddr_eq field136n1 tyOk127 (by rw [cellsOf127]; rfl)
@[simp] theorem fa136n2 : pFieldAddr P 136 (pt b i) 2 w = some (pt b (i + 2), w) := pFieldAddr_eq field136n2 tyOk2 (by rw [cellsOf2]; rfl)
@[simp] theorem fa136n3 : pFieldAddr P 136 (pt b i) 3 w = some (pt b (i + 3), w) := pFieldAddr_eq field136n3 tyOk58 (by rw [cellsOf58]; rfl)
@[simp] theorem fa136n4 : pFieldAddr P 136 (pt b i) 4 w = some (pt b (i + 4), w) := pFieldAddr_eq field136n4 tyOk9 (by rw [cellsOf9]; rfl)
@[simp] theorem fa136n5 : pFieldAddr P 136 (pt b i) 5 w = some (pt b (i + 5), w) := pFieldAddr_eq field136n5 tyOk4 (by rw [cellsOf4]; rfl)
@[simp] theorem al144 : pAlloc P 144 w = some (pt (sz w) 0, nw w ([(Value.bool false), (Value.bool false), (Value.bool false), (Value.bool false), (Value.bool false)]) 144) := by rw [pAlloc_eq hasZero144, zeroL144]
@[simp] theorem ld144 (h : i + 5 ≤ (mm w b).length) : pLoad P 144 (pt b i) w = some (.agg (((mm w b).drop i).take 5).toArray, w) := by
  have := pLoad_agg (w := w) (b := b) (i := i) tyOk144 isAggB144 (by rw [cellsOf144]; exact h); rwa [cellsOf144] at this
@[simp] theorem st144 (hs : a.size = 5) (hv : ∀ v ∈ a.toList, v.oneCell' = true) (hf : fz w b = false) (hi : i + 5 ≤ (mm w b).length) : pStore P 144 (pt b i) (.agg a) w = some (wr w b (splice (mm w b) i a.toList)) :=
  pStore_agg tyOk144 (by rw [cellsOf144, hs]) hv hf (by rw [hs]; exact hi)
@[simp] theorem bf144 {ps : List (Nat × Value)} (hp : ∀ p ∈ ps, p.1 < 5 ∧ p.2.oneCell' = true) : pBuild P 144 ps w = some (.agg (ps.foldl (fun l p => l.set p.1 p.2) ([(Value.bool false), (Value.bool false), (Value.bool false), (Value.bool false), (Value.bool false)])).toArray, w) := by
  have := pBuild_flat (w := w) (ps := ps) hasZero144 (by kernel_rfl) (by kernel_rfl) (by rw [zeroL144]; exact hp); rwa [zeroL144] at this
@[simp] theorem fa144n0 : pFieldAddr P 144 (pt b i) 0 w = some (pt b (i + 0), w) := pFieldAddr_eq field144n0 tyOk4 (by rw [cellsOf4]; rfl)
@[simp] theorem fa144n1 : pFieldAddr P 144 (pt b i) 1 w = some (pt b (i + 1), w) := pFieldAddr_eq field144n1 tyOk4 (by rw [cellsOf4]; rfl)
@[simp] theorem fa144n2 : pFieldAddr P 144 (pt b i) 2 w = some (pt b (i + 2), w) := pFieldAddr_eq field144n2 tyOk4 (by rw [cellsOf4]; rfl)
@[simp] theorem fa144n3 : pFieldAddr P 144 (pt b i) 3 w = some (pt b (i + 3), w) := pFieldAddr_eq field144n3 tyOk4 (by rw [cellsOf4]; rfl)
@[simp] theorem fa144n4 : pFieldAddr P 144 (pt b i) 4 w = some (pt b (i + 4), w) := pFieldAddr_eq field144n4 tyOk4 (by rw [cellsOf4]; rfl)
@[simp] theorem bf159 {ps : List (Nat × Value)} (hp : ∀ p ∈ ps, p.1 < 2 ∧ p.2.oneCell' = true) : pBuild P 159 ps w = some (.agg (ps.foldl (fun l p => l.set p.1 p.2) ([(Value.slice none 0 0), (Value.int IntKind.i64 0)])).toArray, w) := by
  have := pBuild_flat (w := w) (ps := ps) hasZero159 (by kernel_rfl) (by kernel_rfl) (by rw [zeroL159]; exact hp); rwa [zeroL159] at this
@[simp] theorem fa159n0 : pFieldAddr P 159 (pt b i) 0 w = some (pt b (i + 0), w) := pFieldAddr_eq field159n0 tyOk72 (by rw [cellsOf72]; rfl)
@[simp] theorem fa159n1 : pFieldAddr P 159 (pt b i) 1 w = some (pt b (i + 1), w) := pFieldAddr_eq field159n1 tyOk3 (by rw [cellsOf3]; rfl)
@[simp] theorem ia168 (h0 : 0 ≤ j) (h1 : j < n) : pIndexAddr P 168 (sl b o n c) (.int k j) w = some (pt b (o + j.toNat * 1), w) := by
  have := pIndexAddr_slice (w := w) (b := b) (o := o) (c := c) (k := k) sliceE168 tyOk9 h0 h1; rwa [cellsOf9] at this
@[simp] theorem bsl168 {ps : List (Nat × Value)} (hbig : n * 1 ≤ 2 ^ 24) (hp : ∀ p ∈ ps, p.2.cells.size = 1 ∧ p.1 < n) : pBuildSlice P 168 n ps w = some (sl (sz w) 0 n n,
    nw w (ps.foldl (fun l p => splice l (p.1 * 1) p.2.cells.toList) (List.replicate n ([(Value.string ByteArray.empty)])).flatten) 9) := by
  have := pBuildSlice_eq (w := w) sliceE168 hasZero9 tyOk9 cellsOf9 (by rw [zeroL9]; rfl) hbig hp; rwa [zeroL9] at this
end
end Go.Proofs.YtieejbkbdfccdaaGreat
