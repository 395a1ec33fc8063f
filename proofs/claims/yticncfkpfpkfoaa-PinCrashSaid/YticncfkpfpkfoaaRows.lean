/-
  No cell of these rows narrows 'for every input' (looked for: loops, veiled, ifaces, maps, wideKeys, modest, calm, conditions, laid).
  DERIVED. THE GIVEN ROWS OF THIS SEAT. 17 by the template 'for every input the law returns true; each argument reads behind the call as it read before'; 0 by the template 'total and deterministic' (their statements: YticncfkpfpkfoaaTotals.lean).
  GIVEN WITH THE SEED: the statements are not yours to turn. If you find one false, say at which input.
  Laid BY PROGRAM, IN A SANDBOX (cutbox-rows.mjs): the forced cells as the released guide's own fill.sh prints them over the translation 73bec95901c8d951… (all of the seat's roots in one cut). By AI agents, Wed Nov 11 2026. No macro, syntax, notation, axiom, sorry.
-/
import Derived.Test.YticncfkpfpkfoaaChecked
import GoSem.Claim
import GoSem.ClaimJoined
import GoSem.ClaimMapViews
import Derived.JoinedTies
import Derived.KernelRfl
namespace Go.Proofs.Yticncfkpfpkfoaa
/- THE CELL 'sum', in the pinned program and in every row, IS THE sha256 OF THE DUMP (.gsa) THAT YticncfkpfpkfoaaProg.lean LOADS. Nothing in Lean hashes anything: it is a label: what it is worth is what the hold of that sum in a sandbox is worth. -/
noncomputable def Try.pinned : Pinned := { name := "yticncfkpfpkfoaa", sum := "73bec95901c8d951a6404f0982b31da76f7d4073ab2a1c1511064b82532a7f3d", checked := Try.checked }
namespace Rows
def none {H : Type} : Left H := { results := [], args := [] }

/-- 'moietylaw18.SealBack': WHATEVER THE INPUT: true; the input reads as it did. -/
def sealBackSpec : ChangeSpec := { name := "sealBack", fn := fun _ => fun
  | [d] => { results := [.lit (.bool true)], args := [d] }
  | _ => none }
def sealBackRow : OpenClaim := { program := "yticncfkpfpkfoaa", sum := "73bec95901c8d951a6404f0982b31da76f7d4073ab2a1c1511064b82532a7f3d", func := "moiety/moietylaw18.SealBack", spec := "sealBack", apart := false }
def SealBackSaid : Prop := sealBackRow.holds Try.pinned (OpenSpec.ofChange sealBackSpec)

/-- ITS FALSE NEIGHBOUR: 'it returns false'. Refute it at one input. -/
def sealBackWrong : ChangeSpec := { name := "sealBack", fn := fun _ => fun
  | [d] => { results := [.lit (.bool false)], args := [d] }
  | _ => none }
def SealBackWrongFalsely : Prop := sealBackRow.holds Try.pinned (OpenSpec.ofChange sealBackWrong)

/-- 'moietylaw18.SealOpens': WHATEVER THE INPUT: true; the input reads as it did. -/
def sealOpensSpec : ChangeSpec := { name := "sealOpens", fn := fun _ => fun
  | [d] => { results := [.lit (.bool true)], args := [d] }
  | _ => none }
def sealOpensRow : OpenClaim := { program := "yticncfkpfpkfoaa", sum := "73bec95901c8d951a6404f0982b31da76f7d4073ab2a1c1511064b82532a7f3d", func := "moiety/moietylaw18.SealOpens", spec := "sealOpens", apart := false }
def SealOpensSaid : Prop := sealOpensRow.holds Try.pinned (OpenSpec.ofChange sealOpensSpec)

/-- ITS FALSE NEIGHBOUR: 'it returns false'. Refute it at one input. -/
def sealOpensWrong : ChangeSpec := { name := "sealOpens", fn := fun _ => fun
  | [d] => { results := [.lit (.bool false)], args := [d] }
  | _ => none }
def SealOpensWrongFalsely : Prop := sealOpensRow.holds Try.pinned (OpenSpec.ofChange sealOpensWrong)

/-- 'moietylaw17.DiskTorn': WHATEVER THE INPUT: true; the input reads as it did. -/
def diskTornSpec : ChangeSpec := { name := "diskTorn", fn := fun _ => fun
  | [d1, d2, d3] => { results := [.lit (.bool true)], args := [d1, d2, d3] }
  | _ => none }
def diskTornRow : OpenClaim := { program := "yticncfkpfpkfoaa", sum := "73bec95901c8d951a6404f0982b31da76f7d4073ab2a1c1511064b82532a7f3d", func := "moiety/moietylaw17.DiskTorn", spec := "diskTorn", apart := false }
def DiskTornSaid : Prop := diskTornRow.holds Try.pinned (OpenSpec.ofChange diskTornSpec)

/-- ITS FALSE NEIGHBOUR: 'it returns false'. Refute it at one input. -/
def diskTornWrong : ChangeSpec := { name := "diskTorn", fn := fun _ => fun
  | [d1, d2, d3] => { results := [.lit (.bool false)], args := [d1, d2, d3] }
  | _ => none }
def DiskTornWrongFalsely : Prop := diskTornRow.holds Try.pinned (OpenSpec.ofChange diskTornWrong)

/-- 'moietylaw17.DiskKeeps': WHATEVER THE INPUT: true; the input reads as it did. -/
def diskKeepsSpec : ChangeSpec := { name := "diskKeeps", fn := fun _ => fun
  | [d1, d2, d3] => { results := [.lit (.bool true)], args := [d1, d2, d3] }
  | _ => none }
def diskKeepsRow : OpenClaim := { program := "yticncfkpfpkfoaa", sum := "73bec95901c8d951a6404f0982b31da76f7d4073ab2a1c1511064b82532a7f3d", func := "moiety/moietylaw17.DiskKeeps", spec := "diskKeeps", apart := false }
def DiskKeepsSaid : Prop := diskKeepsRow.holds Try.pinned (OpenSpec.ofChange diskKeepsSpec)

/-- ITS FALSE NEIGHBOUR: 'it returns false'. Refute it at one input. -/
def diskKeepsWrong : ChangeSpec := { name := "diskKeeps", fn := fun _ => fun
  | [d1, d2, d3] => { results := [.lit (.bool false)], args := [d1, d2, d3] }
  | _ => none }
def DiskKeepsWrongFalsely : Prop := diskKeepsRow.holds Try.pinned (OpenSpec.ofChange diskKeepsWrong)

/-- 'moietylaw17.DiskDoes': WHATEVER THE INPUT: true; the input reads as it did. -/
def diskDoesSpec : ChangeSpec := { name := "diskDoes", fn := fun _ => fun
  | [d1, d2] => { results := [.lit (.bool true)], args := [d1, d2] }
  | _ => none }
def diskDoesRow : OpenClaim := { program := "yticncfkpfpkfoaa", sum := "73bec95901c8d951a6404f0982b31da76f7d4073ab2a1c1511064b82532a7f3d", func := "moiety/moietylaw17.DiskDoes", spec := "diskDoes", apart := false }
def DiskDoesSaid : Prop := diskDoesRow.holds Try.pinned (OpenSpec.ofChange diskDoesSpec)

/-- ITS FALSE NEIGHBOUR: 'it returns false'. Refute it at one input. -/
def diskDoesWrong : ChangeSpec := { name := "diskDoes", fn := fun _ => fun
  | [d1, d2] => { results := [.lit (.bool false)], args := [d1, d2] }
  | _ => none }
def DiskDoesWrongFalsely : Prop := diskDoesRow.holds Try.pinned (OpenSpec.ofChange diskDoesWrong)

/-- 'moietylaw17.DiskApart': WHATEVER THE INPUT: true; the input reads as it did. -/
def diskApartSpec : ChangeSpec := { name := "diskApart", fn := fun _ => fun
  | [d1, d2] => { results := [.lit (.bool true)], args := [d1, d2] }
  | _ => none }
def diskApartRow : OpenClaim := { program := "yticncfkpfpkfoaa", sum := "73bec95901c8d951a6404f0982b31da76f7d4073ab2a1c1511064b82532a7f3d", func := "moiety/moietylaw17.DiskApart", spec := "diskApart", apart := false }
def DiskApartSaid : Prop := diskApartRow.holds Try.pinned (OpenSpec.ofChange diskApartSpec)

/-- ITS FALSE NEIGHBOUR: 'it returns false'. Refute it at one input. -/
def diskApartWrong : ChangeSpec := { name := "diskApart", fn := fun _ => fun
  | [d1, d2] => { results := [.lit (.bool false)], args := [d1, d2] }
  | _ => none }
def DiskApartWrongFalsely : Prop := diskApartRow.holds Try.pinned (OpenSpec.ofChange diskApartWrong)

/-- 'moietylaw18.SealTorn': WHATEVER THE INPUT: true; the input reads as it did. -/
def sealTornSpec : ChangeSpec := { name := "sealTorn", fn := fun _ => fun
  | [d1, d2] => { results := [.lit (.bool true)], args := [d1, d2] }
  | _ => none }
def sealTornRow : OpenClaim := { program := "yticncfkpfpkfoaa", sum := "73bec95901c8d951a6404f0982b31da76f7d4073ab2a1c1511064b82532a7f3d", func := "moiety/moietylaw18.SealTorn", spec := "sealTorn", apart := false }
def SealTornSaid : Prop := sealTornRow.holds Try.pinned (OpenSpec.ofChange sealTornSpec)

/-- ITS FALSE NEIGHBOUR: 'it returns false'. Refute it at one input. -/
def sealTornWrong : ChangeSpec := { name := "sealTorn", fn := fun _ => fun
  | [d1, d2] => { results := [.lit (.bool false)], args := [d1, d2] }
  | _ => none }
def SealTornWrongFalsely : Prop := sealTornRow.holds Try.pinned (OpenSpec.ofChange sealTornWrong)

/-- 'moietylaw18.SealBreaks': WHATEVER THE INPUT: true; the input reads as it did. -/
def sealBreaksSpec : ChangeSpec := { name := "sealBreaks", fn := fun _ => fun
  | [d1, d2] => { results := [.lit (.bool true)], args := [d1, d2] }
  | _ => none }
def sealBreaksRow : OpenClaim := { program := "yticncfkpfpkfoaa", sum := "73bec95901c8d951a6404f0982b31da76f7d4073ab2a1c1511064b82532a7f3d", func := "moiety/moietylaw18.SealBreaks", spec := "sealBreaks", apart := false }
def SealBreaksSaid : Prop := sealBreaksRow.holds Try.pinned (OpenSpec.ofChange sealBreaksSpec)

/-- ITS FALSE NEIGHBOUR: 'it returns false'. Refute it at one input. -/
def sealBreaksWrong : ChangeSpec := { name := "sealBreaks", fn := fun _ => fun
  | [d1, d2] => { results := [.lit (.bool false)], args := [d1, d2] }
  | _ => none }
def SealBreaksWrongFalsely : Prop := sealBreaksRow.holds Try.pinned (OpenSpec.ofChange sealBreaksWrong)

/-- 'moietylaw18.SealWipes': WHATEVER THE INPUT: true; the input reads as it did. -/
def sealWipesSpec : ChangeSpec := { name := "sealWipes", fn := fun _ => fun
  | [d1, d2, d3] => { results := [.lit (.bool true)], args := [d1, d2, d3] }
  | _ => none }
def sealWipesRow : OpenClaim := { program := "yticncfkpfpkfoaa", sum := "73bec95901c8d951a6404f0982b31da76f7d4073ab2a1c1511064b82532a7f3d", func := "moiety/moietylaw18.SealWipes", spec := "sealWipes", apart := false }
def SealWipesSaid : Prop := sealWipesRow.holds Try.pinned (OpenSpec.ofChange sealWipesSpec)

/-- ITS FALSE NEIGHBOUR: 'it returns false'. Refute it at one input. -/
def sealWipesWrong : ChangeSpec := { name := "sealWipes", fn := fun _ => fun
  | [d1, d2, d3] => { results := [.lit (.bool false)], args := [d1, d2, d3] }
  | _ => none }
def SealWipesWrongFalsely : Prop := sealWipesRow.holds Try.pinned (OpenSpec.ofChange sealWipesWrong)

/-- 'moietylaw19.RollDown': WHATEVER THE INPUT: true; the input reads as it did. -/
def rollDownSpec : ChangeSpec := { name := "rollDown", fn := fun _ => fun
  | [d1, d2] => { results := [.lit (.bool true)], args := [d1, d2] }
  | _ => none }
def rollDownRow : OpenClaim := { program := "yticncfkpfpkfoaa", sum := "73bec95901c8d951a6404f0982b31da76f7d4073ab2a1c1511064b82532a7f3d", func := "moiety/moietylaw19.RollDown", spec := "rollDown", apart := false }
def RollDownSaid : Prop := rollDownRow.holds Try.pinned (OpenSpec.ofChange rollDownSpec)

/-- ITS FALSE NEIGHBOUR: 'it returns false'. Refute it at one input. -/
def rollDownWrong : ChangeSpec := { name := "rollDown", fn := fun _ => fun
  | [d1, d2] => { results := [.lit (.bool false)], args := [d1, d2] }
  | _ => none }
def RollDownWrongFalsely : Prop := rollDownRow.holds Try.pinned (OpenSpec.ofChange rollDownWrong)

/-- 'moietylaw19.RollScans': WHATEVER THE INPUT: true; the input reads as it did. -/
def rollScansSpec : ChangeSpec := { name := "rollScans", fn := fun _ => fun
  | [d1, d2] => { results := [.lit (.bool true)], args := [d1, d2] }
  | _ => none }
def rollScansRow : OpenClaim := { program := "yticncfkpfpkfoaa", sum := "73bec95901c8d951a6404f0982b31da76f7d4073ab2a1c1511064b82532a7f3d", func := "moiety/moietylaw19.RollScans", spec := "rollScans", apart := false }
def RollScansSaid : Prop := rollScansRow.holds Try.pinned (OpenSpec.ofChange rollScansSpec)

/-- ITS FALSE NEIGHBOUR: 'it returns false'. Refute it at one input. -/
def rollScansWrong : ChangeSpec := { name := "rollScans", fn := fun _ => fun
  | [d1, d2] => { results := [.lit (.bool false)], args := [d1, d2] }
  | _ => none }
def RollScansWrongFalsely : Prop := rollScansRow.holds Try.pinned (OpenSpec.ofChange rollScansWrong)

/-- 'moietylaw19.RollKeeps': WHATEVER THE INPUT: true; the input reads as it did. -/
def rollKeepsSpec : ChangeSpec := { name := "rollKeeps", fn := fun _ => fun
  | [d1, d2] => { results := [.lit (.bool true)], args := [d1, d2] }
  | _ => none }
def rollKeepsRow : OpenClaim := { program := "yticncfkpfpkfoaa", sum := "73bec95901c8d951a6404f0982b31da76f7d4073ab2a1c1511064b82532a7f3d", func := "moiety/moietylaw19.RollKeeps", spec := "rollKeeps", apart := false }
def RollKeepsSaid : Prop := rollKeepsRow.holds Try.pinned (OpenSpec.ofChange rollKeepsSpec)

/-- ITS FALSE NEIGHBOUR: 'it returns false'. Refute it at one input. -/
def rollKeepsWrong : ChangeSpec := { name := "rollKeeps", fn := fun _ => fun
  | [d1, d2] => { results := [.lit (.bool false)], args := [d1, d2] }
  | _ => none }
def RollKeepsWrongFalsely : Prop := rollKeepsRow.holds Try.pinned (OpenSpec.ofChange rollKeepsWrong)

/-- 'moietylaw19.RollFront': WHATEVER THE INPUT: true; the input reads as it did. -/
def rollFrontSpec : ChangeSpec := { name := "rollFront", fn := fun _ => fun
  | [d1, d2, d3] => { results := [.lit (.bool true)], args := [d1, d2, d3] }
  | _ => none }
def rollFrontRow : OpenClaim := { program := "yticncfkpfpkfoaa", sum := "73bec95901c8d951a6404f0982b31da76f7d4073ab2a1c1511064b82532a7f3d", func := "moiety/moietylaw19.RollFront", spec := "rollFront", apart := false }
def RollFrontSaid : Prop := rollFrontRow.holds Try.pinned (OpenSpec.ofChange rollFrontSpec)

/-- ITS FALSE NEIGHBOUR: 'it returns false'. Refute it at one input. -/
def rollFrontWrong : ChangeSpec := { name := "rollFront", fn := fun _ => fun
  | [d1, d2, d3] => { results := [.lit (.bool false)], args := [d1, d2, d3] }
  | _ => none }
def RollFrontWrongFalsely : Prop := rollFrontRow.holds Try.pinned (OpenSpec.ofChange rollFrontWrong)

/-- 'moietylaw22.PinRows': WHATEVER THE INPUT: true; the input reads as it did. -/
def pinRowsSpec : ChangeSpec := { name := "pinRows", fn := fun _ => fun
  | [d1, d2, d3] => { results := [.lit (.bool true)], args := [d1, d2, d3] }
  | _ => none }
def pinRowsRow : OpenClaim := { program := "yticncfkpfpkfoaa", sum := "73bec95901c8d951a6404f0982b31da76f7d4073ab2a1c1511064b82532a7f3d", func := "moiety/moietylaw22.PinRows", spec := "pinRows", inPlace := ["math.Float64frombits", "math.Float64bits"], unfollowed := true, recurses := true, apart := false }
def PinRowsSaid : Prop := pinRowsRow.holds Try.pinned (OpenSpec.ofChange pinRowsSpec)

/-- ITS FALSE NEIGHBOUR: 'it returns false'. Refute it at one input. -/
def pinRowsWrong : ChangeSpec := { name := "pinRows", fn := fun _ => fun
  | [d1, d2, d3] => { results := [.lit (.bool false)], args := [d1, d2, d3] }
  | _ => none }
def PinRowsWrongFalsely : Prop := pinRowsRow.holds Try.pinned (OpenSpec.ofChange pinRowsWrong)

/-- 'moietylaw22.PinDown': WHATEVER THE INPUT: true; the input reads as it did. -/
def pinDownSpec : ChangeSpec := { name := "pinDown", fn := fun _ => fun
  | [d] => { results := [.lit (.bool true)], args := [d] }
  | _ => none }
def pinDownRow : OpenClaim := { program := "yticncfkpfpkfoaa", sum := "73bec95901c8d951a6404f0982b31da76f7d4073ab2a1c1511064b82532a7f3d", func := "moiety/moietylaw22.PinDown", spec := "pinDown", inPlace := ["math.Float64frombits", "math.Float64bits"], unfollowed := true, recurses := true, apart := false }
def PinDownSaid : Prop := pinDownRow.holds Try.pinned (OpenSpec.ofChange pinDownSpec)

/-- ITS FALSE NEIGHBOUR: 'it returns false'. Refute it at one input. -/
def pinDownWrong : ChangeSpec := { name := "pinDown", fn := fun _ => fun
  | [d] => { results := [.lit (.bool false)], args := [d] }
  | _ => none }
def PinDownWrongFalsely : Prop := pinDownRow.holds Try.pinned (OpenSpec.ofChange pinDownWrong)

/-- 'moietylaw22.PinChecks': WHATEVER THE INPUT: true; the input reads as it did. -/
def pinChecksSpec : ChangeSpec := { name := "pinChecks", fn := fun _ => fun
  | [d1, d2] => { results := [.lit (.bool true)], args := [d1, d2] }
  | _ => none }
def pinChecksRow : OpenClaim := { program := "yticncfkpfpkfoaa", sum := "73bec95901c8d951a6404f0982b31da76f7d4073ab2a1c1511064b82532a7f3d", func := "moiety/moietylaw22.PinChecks", spec := "pinChecks", inPlace := ["math.Float64frombits", "math.Float64bits"], unfollowed := true, recurses := true, apart := false }
def PinChecksSaid : Prop := pinChecksRow.holds Try.pinned (OpenSpec.ofChange pinChecksSpec)

/-- ITS FALSE NEIGHBOUR: 'it returns false'. Refute it at one input. -/
def pinChecksWrong : ChangeSpec := { name := "pinChecks", fn := fun _ => fun
  | [d1, d2] => { results := [.lit (.bool false)], args := [d1, d2] }
  | _ => none }
def PinChecksWrongFalsely : Prop := pinChecksRow.holds Try.pinned (OpenSpec.ofChange pinChecksWrong)

/-- 'moietylaw22.PinCrash': WHATEVER THE INPUT: true; the input reads as it did. -/
def pinCrashSpec : ChangeSpec := { name := "pinCrash", fn := fun _ => fun
  | [d1, d2, d3] => { results := [.lit (.bool true)], args := [d1, d2, d3] }
  | _ => none }
def pinCrashRow : OpenClaim := { program := "yticncfkpfpkfoaa", sum := "73bec95901c8d951a6404f0982b31da76f7d4073ab2a1c1511064b82532a7f3d", func := "moiety/moietylaw22.PinCrash", spec := "pinCrash", inPlace := ["math.Float64frombits", "math.Float64bits"], unfollowed := true, recurses := true, apart := false }
def PinCrashSaid : Prop := pinCrashRow.holds Try.pinned (OpenSpec.ofChange pinCrashSpec)

/-- ITS FALSE NEIGHBOUR: 'it returns false'. Refute it at one input. -/
def pinCrashWrong : ChangeSpec := { name := "pinCrash", fn := fun _ => fun
  | [d1, d2, d3] => { results := [.lit (.bool false)], args := [d1, d2, d3] }
  | _ => none }
def PinCrashWrongFalsely : Prop := pinCrashRow.holds Try.pinned (OpenSpec.ofChange pinCrashWrong)

/- THE SECOND FORM. 'bulk': how many values and letters a reading holds, each counted each time it is reached (what is shared counts as often as it is met; a slice's spare places count too). A statement '..UptoSaid' is the law's where the arguments, and the package variables that the reading takes, are together of bulk at most 1048576: NARROWER than '..Said'. Prove '..Said' where nothing that the law and all that it calls make is longer than what came in: it says more and counts as full. Else prove '..UptoSaid'. A law counts once. -/
mutual
def uptoBulk {H : Type} : DataW H → Nat
  | .lit (.string bytes) => bytes.length + 1
  | .lit _ => 1
  | .nil => 1
  | .ptr d => uptoBulk d + 1
  | .slice elems spare => uptoBulkAll elems + uptoBulkAll spare + 1
  | .agg parts => uptoBulkAll parts + 1
  | .iface _ d => uptoBulk d + 1
  | .map entries => uptoBulkEntries entries + 1
  | .held _ => 1
def uptoBulkAll {H : Type} : List (DataW H) → Nat
  | [] => 0
  | d :: r => uptoBulk d + uptoBulkAll r
def uptoBulkEntries {H : Type} : List (Lit × DataW H) → Nat
  | [] => 0
  | x :: r => uptoBulkEntry x + uptoBulkEntries r
def uptoBulkEntry {H : Type} : Lit × DataW H → Nat
  | (.string bytes, d) => bytes.length + uptoBulk d + 1
  | (_, d) => uptoBulk d + 1
 end
def uptoSmall : (H : Type) → List (DataW H) → Bool := fun _ ds => decide (uptoBulkAll ds ≤ 1048576)
def OpenSpec.upto (s : _root_.Go.ChangeSpec) : _root_.Go.OpenSpec := { _root_.Go.OpenSpec.ofChange s with cond := some uptoSmall }

/-- 'moietylaw18.SealBack', WHERE WHAT IT READS IS OF BULK AT MOST 1048576: true; the input reads as it did. -/
def sealBackUptoRow : OpenClaim := { program := "yticncfkpfpkfoaa", sum := "73bec95901c8d951a6404f0982b31da76f7d4073ab2a1c1511064b82532a7f3d", func := "moiety/moietylaw18.SealBack", spec := "sealBack", apart := false, narrowed := true }
def SealBackUptoSaid : Prop := sealBackUptoRow.holds Try.pinned (OpenSpec.upto sealBackSpec)

/-- 'moietylaw18.SealOpens', WHERE WHAT IT READS IS OF BULK AT MOST 1048576: true; the input reads as it did. -/
def sealOpensUptoRow : OpenClaim := { program := "yticncfkpfpkfoaa", sum := "73bec95901c8d951a6404f0982b31da76f7d4073ab2a1c1511064b82532a7f3d", func := "moiety/moietylaw18.SealOpens", spec := "sealOpens", apart := false, narrowed := true }
def SealOpensUptoSaid : Prop := sealOpensUptoRow.holds Try.pinned (OpenSpec.upto sealOpensSpec)

/-- 'moietylaw17.DiskTorn', WHERE WHAT IT READS IS OF BULK AT MOST 1048576: true; the input reads as it did. -/
def diskTornUptoRow : OpenClaim := { program := "yticncfkpfpkfoaa", sum := "73bec95901c8d951a6404f0982b31da76f7d4073ab2a1c1511064b82532a7f3d", func := "moiety/moietylaw17.DiskTorn", spec := "diskTorn", apart := false, narrowed := true }
def DiskTornUptoSaid : Prop := diskTornUptoRow.holds Try.pinned (OpenSpec.upto diskTornSpec)

/-- 'moietylaw17.DiskKeeps', WHERE WHAT IT READS IS OF BULK AT MOST 1048576: true; the input reads as it did. -/
def diskKeepsUptoRow : OpenClaim := { program := "yticncfkpfpkfoaa", sum := "73bec95901c8d951a6404f0982b31da76f7d4073ab2a1c1511064b82532a7f3d", func := "moiety/moietylaw17.DiskKeeps", spec := "diskKeeps", apart := false, narrowed := true }
def DiskKeepsUptoSaid : Prop := diskKeepsUptoRow.holds Try.pinned (OpenSpec.upto diskKeepsSpec)

/-- 'moietylaw17.DiskDoes', WHERE WHAT IT READS IS OF BULK AT MOST 1048576: true; the input reads as it did. -/
def diskDoesUptoRow : OpenClaim := { program := "yticncfkpfpkfoaa", sum := "73bec95901c8d951a6404f0982b31da76f7d4073ab2a1c1511064b82532a7f3d", func := "moiety/moietylaw17.DiskDoes", spec := "diskDoes", apart := false, narrowed := true }
def DiskDoesUptoSaid : Prop := diskDoesUptoRow.holds Try.pinned (OpenSpec.upto diskDoesSpec)

/-- 'moietylaw17.DiskApart', WHERE WHAT IT READS IS OF BULK AT MOST 1048576: true; the input reads as it did. -/
def diskApartUptoRow : OpenClaim := { program := "yticncfkpfpkfoaa", sum := "73bec95901c8d951a6404f0982b31da76f7d4073ab2a1c1511064b82532a7f3d", func := "moiety/moietylaw17.DiskApart", spec := "diskApart", apart := false, narrowed := true }
def DiskApartUptoSaid : Prop := diskApartUptoRow.holds Try.pinned (OpenSpec.upto diskApartSpec)

/-- 'moietylaw18.SealTorn', WHERE WHAT IT READS IS OF BULK AT MOST 1048576: true; the input reads as it did. -/
def sealTornUptoRow : OpenClaim := { program := "yticncfkpfpkfoaa", sum := "73bec95901c8d951a6404f0982b31da76f7d4073ab2a1c1511064b82532a7f3d", func := "moiety/moietylaw18.SealTorn", spec := "sealTorn", apart := false, narrowed := true }
def SealTornUptoSaid : Prop := sealTornUptoRow.holds Try.pinned (OpenSpec.upto sealTornSpec)

/-- 'moietylaw18.SealBreaks', WHERE WHAT IT READS IS OF BULK AT MOST 1048576: true; the input reads as it did. -/
def sealBreaksUptoRow : OpenClaim := { program := "yticncfkpfpkfoaa", sum := "73bec95901c8d951a6404f0982b31da76f7d4073ab2a1c1511064b82532a7f3d", func := "moiety/moietylaw18.SealBreaks", spec := "sealBreaks", apart := false, narrowed := true }
def SealBreaksUptoSaid : Prop := sealBreaksUptoRow.holds Try.pinned (OpenSpec.upto sealBreaksSpec)

/-- 'moietylaw18.SealWipes', WHERE WHAT IT READS IS OF BULK AT MOST 1048576: true; the input reads as it did. -/
def sealWipesUptoRow : OpenClaim := { program := "yticncfkpfpkfoaa", sum := "73bec95901c8d951a6404f0982b31da76f7d4073ab2a1c1511064b82532a7f3d", func := "moiety/moietylaw18.SealWipes", spec := "sealWipes", apart := false, narrowed := true }
def SealWipesUptoSaid : Prop := sealWipesUptoRow.holds Try.pinned (OpenSpec.upto sealWipesSpec)

/-- 'moietylaw19.RollDown', WHERE WHAT IT READS IS OF BULK AT MOST 1048576: true; the input reads as it did. -/
def rollDownUptoRow : OpenClaim := { program := "yticncfkpfpkfoaa", sum := "73bec95901c8d951a6404f0982b31da76f7d4073ab2a1c1511064b82532a7f3d", func := "moiety/moietylaw19.RollDown", spec := "rollDown", apart := false, narrowed := true }
def RollDownUptoSaid : Prop := rollDownUptoRow.holds Try.pinned (OpenSpec.upto rollDownSpec)

/-- 'moietylaw19.RollScans', WHERE WHAT IT READS IS OF BULK AT MOST 1048576: true; the input reads as it did. -/
def rollScansUptoRow : OpenClaim := { program := "yticncfkpfpkfoaa", sum := "73bec95901c8d951a6404f0982b31da76f7d4073ab2a1c1511064b82532a7f3d", func := "moiety/moietylaw19.RollScans", spec := "rollScans", apart := false, narrowed := true }
def RollScansUptoSaid : Prop := rollScansUptoRow.holds Try.pinned (OpenSpec.upto rollScansSpec)

/-- 'moietylaw19.RollKeeps', WHERE WHAT IT READS IS OF BULK AT MOST 1048576: true; the input reads as it did. -/
def rollKeepsUptoRow : OpenClaim := { program := "yticncfkpfpkfoaa", sum := "73bec95901c8d951a6404f0982b31da76f7d4073ab2a1c1511064b82532a7f3d", func := "moiety/moietylaw19.RollKeeps", spec := "rollKeeps", apart := false, narrowed := true }
def RollKeepsUptoSaid : Prop := rollKeepsUptoRow.holds Try.pinned (OpenSpec.upto rollKeepsSpec)

/-- 'moietylaw19.RollFront', WHERE WHAT IT READS IS OF BULK AT MOST 1048576: true; the input reads as it did. -/
def rollFrontUptoRow : OpenClaim := { program := "yticncfkpfpkfoaa", sum := "73bec95901c8d951a6404f0982b31da76f7d4073ab2a1c1511064b82532a7f3d", func := "moiety/moietylaw19.RollFront", spec := "rollFront", apart := false, narrowed := true }
def RollFrontUptoSaid : Prop := rollFrontUptoRow.holds Try.pinned (OpenSpec.upto rollFrontSpec)

/-- 'moietylaw22.PinRows', WHERE WHAT IT READS IS OF BULK AT MOST 1048576: true; the input reads as it did. -/
def pinRowsUptoRow : OpenClaim := { program := "yticncfkpfpkfoaa", sum := "73bec95901c8d951a6404f0982b31da76f7d4073ab2a1c1511064b82532a7f3d", func := "moiety/moietylaw22.PinRows", spec := "pinRows", inPlace := ["math.Float64frombits", "math.Float64bits"], unfollowed := true, recurses := true, apart := false, narrowed := true }
def PinRowsUptoSaid : Prop := pinRowsUptoRow.holds Try.pinned (OpenSpec.upto pinRowsSpec)

/-- 'moietylaw22.PinDown', WHERE WHAT IT READS IS OF BULK AT MOST 1048576: true; the input reads as it did. -/
def pinDownUptoRow : OpenClaim := { program := "yticncfkpfpkfoaa", sum := "73bec95901c8d951a6404f0982b31da76f7d4073ab2a1c1511064b82532a7f3d", func := "moiety/moietylaw22.PinDown", spec := "pinDown", inPlace := ["math.Float64frombits", "math.Float64bits"], unfollowed := true, recurses := true, apart := false, narrowed := true }
def PinDownUptoSaid : Prop := pinDownUptoRow.holds Try.pinned (OpenSpec.upto pinDownSpec)

/-- 'moietylaw22.PinChecks', WHERE WHAT IT READS IS OF BULK AT MOST 1048576: true; the input reads as it did. -/
def pinChecksUptoRow : OpenClaim := { program := "yticncfkpfpkfoaa", sum := "73bec95901c8d951a6404f0982b31da76f7d4073ab2a1c1511064b82532a7f3d", func := "moiety/moietylaw22.PinChecks", spec := "pinChecks", inPlace := ["math.Float64frombits", "math.Float64bits"], unfollowed := true, recurses := true, apart := false, narrowed := true }
def PinChecksUptoSaid : Prop := pinChecksUptoRow.holds Try.pinned (OpenSpec.upto pinChecksSpec)

/-- 'moietylaw22.PinCrash', WHERE WHAT IT READS IS OF BULK AT MOST 1048576: true; the input reads as it did. -/
def pinCrashUptoRow : OpenClaim := { program := "yticncfkpfpkfoaa", sum := "73bec95901c8d951a6404f0982b31da76f7d4073ab2a1c1511064b82532a7f3d", func := "moiety/moietylaw22.PinCrash", spec := "pinCrash", inPlace := ["math.Float64frombits", "math.Float64bits"], unfollowed := true, recurses := true, apart := false, narrowed := true }
def PinCrashUptoSaid : Prop := pinCrashUptoRow.holds Try.pinned (OpenSpec.upto pinCrashSpec)

end Rows
end Go.Proofs.Yticncfkpfpkfoaa
